/- SendPlays: the program and the document side by side. -/
import Derived.Test.YtimldpbddkhedaaDoorRfd
import Derived.Test.YtimldpbddkhedaaDoorLaw
namespace Go.Proofs.YtimldpbddkhedaaDoor
open Go Go.RowKit
set_option maxRecDepth 100000
set_option linter.unusedVariables false
set_option linter.unusedSimpArgs false
attribute [local irreducible] Go.wpList Go.Code.wp Go.Exit.then Go.Exit.inBlock Go.Exit.noGoto Ends blk osl oblk LoopI Own Spec
/-- What both sessions keep. -/
structure Pv (T body : List Bs) (B : Nat) (c : Cl) : Prop where
  inv : Inv c
  tg : c.targets = T
  bd : c.over = false → c.body = stuffB body ++ [46, 13, 10]
  rc : c.rlines.length = 0 ∨ c.rcode ≠ 0
  o : c.out.length + c.wait.length ≤ B
  r : c.rlines.length + c.wait.length ≤ B
theorem replyF_rc {code : Int} {ls : List Bs} {l : Ln} : (replyF code ls (splitL l)).lines.length = 0 ∨ (replyF code ls (splitL l)).code ≠ 0 := by
  unfold replyF
  split
  · left; rfl
  · rename_i h
    split
    · right
      have hok : (splitL l).ok = true := by
        cases h2 : (splitL l).ok with
        | true => rfl
        | false => exact absurd (.inl h2) h
      have := split_ok hok
      show (splitL l).n ≠ 0
      omega
    · left; rfl
theorem lost_pv {T body : List Bs} {B : Nat} {c : Cl} (h : Pv T body B c) : Pv T body B c.lost := by
  unfold Cl.lost
  split
  · exact h
  · rename_i ho
    refine ⟨?_, h.tg, fun e => Bool.noConfusion e, h.rc, ?_, h.r⟩
    · have := Cl.lost_inv h.inv
      unfold Cl.lost at this
      rwa [if_neg ho] at this
    · show 0 + c.wait.length ≤ B
      have := h.o
      omega
theorem feed1_pv {T body : List Bs} {B : Nat} {c : Cl} {l : Ln} (h : Pv T body B c) (hov : c.over = false) (h2 : c.out.length + c.wait.length + 2 ≤ B) (h3 : c.rlines.length + c.wait.length + 2 ≤ B) : Pv T body B (c.feed1 l) := by
  have hrc := replyF_rc (code := c.rcode) (ls := c.rlines) (l := l)
  have hln := replyF_lines c.rcode c.rlines (splitL l)
  unfold Cl.feed1
  generalize replyF c.rcode c.rlines (splitL l) = f at hrc hln
  have hp : Pv T body B (c.put f) := ⟨Cl.put_inv h.inv _, h.tg, h.bd, hrc, h.o, by show f.lines.length + c.wait.length ≤ B; omega⟩
  simp only []
  split
  · exact lost_pv hp
  · split
    · have hs := Cl.take_same (c.put f) f.rc
      have hs1 : ((c.put f).take f.rc).wait.length = c.wait.length := by rw [hs.wait]; rfl
      have hs2 : ((c.put f).take f.rc).out.length ≤ c.out.length + 1 := hs.out
      have hs3 : ((c.put f).take f.rc).rlines.length = f.lines.length := by rw [hs.rlines]; rfl
      exact ⟨Cl.take_inv hp.inv hov _, hs.targets.trans h.tg, fun _ => hs.body.trans (h.bd hov), by rw [hs.rlines, hs.rcode]; exact hrc, by omega, by omega⟩
    · exact hp
theorem fdRun_pv {T body : List Bs} {B : Nat} : ∀ (k : Nat) {c : Cl}, Pv T body B c → Pv T body B (fdRun k c)
  | 0, c, h => h
  | k + 1, c, h => by
    unfold fdRun
    split
    · exact h
    · rename_i hov
      have hov : c.over = false := by simpa using hov
      rcases crlf_cases c.wait with hi | ⟨i, hi, him, hci⟩
      · rw [crlf_none hi]; exact h
      · rw [hci]
        have hw : (c.wait.drop (i + 2)).length = c.wait.length - (i + 2) := List.length_drop
        refine fdRun_pv k (feed1_pv ?_ hov ?_ ?_)
        · exact ⟨Cl.wait_inv h.inv _, h.tg, h.bd, h.rc, by show c.out.length + (c.wait.drop (i + 2)).length ≤ B; have := h.o; omega, by show c.rlines.length + (c.wait.drop (i + 2)).length ≤ B; have := h.r; omega⟩
        · show c.out.length + (c.wait.drop (i + 2)).length + 2 ≤ B; have := h.o; omega
        · show c.rlines.length + (c.wait.drop (i + 2)).length + 2 ≤ B; have := h.r; omega
theorem feed_pv {T body : List Bs} {B : Nat} {c : Cl} (h : Pv T body B c) (x : Bs) : Pv T body (B + x.length) (c.feed x) := by
  have h' : Pv T body (B + x.length) c := ⟨h.inv, h.tg, h.bd, h.rc, by have := h.o; omega, by have := h.r; omega⟩
  unfold Cl.feed
  split
  · exact h'
  · exact fdRun_pv _ ⟨Cl.wait_inv h.inv _, h.tg, h.bd, h.rc, by show c.out.length + (c.wait ++ x).length ≤ _; rw [List.length_append]; have := h.o; omega, by show c.rlines.length + (c.wait ++ x).length ≤ _; rw [List.length_append]; have := h.r; omega⟩
theorem new_pv {host frm : Bs} {targets body : List Bs} (hh : Sm host) (hf : Sm frm) (ht : ∀ t ∈ targets, Sm t) (hn : targets.length ≤ 1000000) (hb : body.length ≤ 100000000000000) : Pv targets body 0 (Cl.new host frm targets body) ∧ (Cl.new host frm targets body).out = [] := by
  have hI := Cl.new_inv hh hf ht hn hb
  unfold Cl.new at hI ⊢
  split
  · rename_i h
    rw [if_pos h] at hI
    exact ⟨⟨hI, rfl, fun e => Bool.noConfusion e, .inl rfl, Nat.le_refl _, Nat.le_refl _⟩, rfl⟩
  · rename_i h
    rw [if_neg h] at hI
    refine ⟨⟨hI, rfl, fun _ => ?_, .inl rfl, Nat.le_refl _, Nat.le_refl _⟩, rfl⟩
    show (stuffV body).1 = _
    have hg : goodB body = true := by
      cases hg : goodB body with
      | true => rfl
      | false => exact absurd (.inl ((stuffV_2 body).2 hg)) h
    unfold stuffV
    rw [if_pos hg]
structure Pk where
  A : Option Addr
  n : Nat
  c : Nat
  l : Bs
abbrev slv (p : Pk) : Value := .slice p.A p.n p.c
def tot (l : List Bs) : Nat := (l.map List.length).sum
theorem tot_take (l : List Bs) (k : Nat) (h : k < l.length) : tot (l.take (k + 1)) = tot (l.take k) + (l.getD k []).length := by
  have ha : ∀ a b : List Bs, tot (a ++ b) = tot a + tot b := by intro a b; simp [tot]
  rw [List.take_succ_eq_append_getElem h, ha]
  have : l.getD k [] = l[k] := by simp [List.getD_eq_getElem?_getD, h]
  rw [this]; simp [tot]
theorem sizeL_tot (l : List Bs) : sizeL l = tot l + 2 * l.length := by
  induction l with
  | nil => rfl
  | cons s l ih =>
    have h1 : sizeL (s :: l) = s.length + 2 + sizeL l := by simp [sizeL]
    have h2 : tot (s :: l) = s.length + tot l := by simp [tot]
    rw [h1, h2, ih, List.length_cons]; omega
theorem tot_le {l : List Bs} {m : Nat} (h : ∀ s ∈ l, s.length ≤ m) : tot l ≤ m * l.length := by
  induction l with
  | nil => simp [tot]
  | cons s l ih =>
    have h1 := ih fun t ht => h t (.tail _ ht)
    have h2 := h s (.head _)
    have h3 : tot (s :: l) = s.length + tot l := by simp [tot]
    rw [h3, List.length_cons, Nat.mul_succ]; omega
theorem Reads.clip {w0 : World} {cs : List SProp} {A : Option Addr} {n c : Nat} {xs : List Value} (h : Reads w0 cs A n c xs) : Reads w0 cs A n n xs := fun w ho => by
  obtain ⟨h1, h2, h3, h4, h5⟩ := h w ho
  exact ⟨h1, Nat.le_refl _, Nat.le_trans h2 h3, fun e => by have := h4 e; omega, h5⟩
theorem Cl.out_inv {c : Cl} (h : Inv c) : Inv { c with out := [] } := ⟨⟨h.1.1, h.1.2, h.1.3, h.1.4, h.1.5, h.1.6, h.1.7, h.1.8, h.1.9, h.1.10⟩, h.2, h.3, h.4, h.5⟩
theorem pack6 {w0 w : World} {et : TypeId} {L B W K : SProp} {cs : List SProp} (h : Own w0 w (L :: B :: W :: K :: cs)) : Own w0 w (B :: W :: osl et none 0 0 [] :: K :: L :: cs) := by
  have h1 : Own w0 w ([osl et none 0 0 [], L] ++ ([B, W] ++ (K :: cs))) := Own.nil_osl et h
  have h2 : Own w0 w ([B, W] ++ ([osl et none 0 0 [], L] ++ (K :: cs))) := h1.perm (List.perm_append_comm_assoc _ _ _)
  exact h2.perm (.cons _ (.cons _ (.cons _ (.swap _ _ _))))
theorem spec_plays (w0 : World) (hG : Gl w0) (host frm : Bs) (targets body : List Bs) (said : List Pk) (lost : Int) {tA bA sA : Option Addr} {tn tc bn bc sn sc : Nat} (cs : List SProp)
    (ht : Reads w0 cs tA tn tc (targets.map str)) (hb : Reads w0 cs bA bn bc (body.map str)) (hsd : Reads w0 cs sA sn sc (said.map slv)) (hsb : ∀ p ∈ said, Reads w0 cs p.A p.n p.c (p.l.map u8v))
    (hh : Sm host) (hf : Sm frm) (hts : ∀ t ∈ targets, Sm t) (hbs : ∀ s ∈ body, Sm s) (hss : ∀ p ∈ said, Sm p.l) (h0 : 0 ≤ lost) (h1 : lost ≤ 255) :
    Spec Tryd.prog w0 3 [str host, str frm, .slice tA tn tc, .slice bA bn bc, .slice sA sn sc, .int .u8 lost] cs (fun v _ => v = bol true) := by
  refine Spec.of_body Tryd.func3 rfl Tryd.ntmps3 rfl ?_
  refine H.fact (fun w hw => (ht w hw).facts) fun ⟨tl1, tl2, tl3, tl4⟩ => ?_
  refine H.fact (fun w hw => (hb w hw).facts) fun ⟨bl1, bl2, bl3, bl4⟩ => ?_
  refine H.fact (fun w hw => (hsd w hw).facts) fun ⟨sl1, sl2, sl3, sl4⟩ => ?_
  refine H.fact (fun w hw => fun p (hp : p ∈ said) => (hsb p hp w hw).facts) fun hsf => ?_
  simp only [List.length_map] at tl1 bl1 sl1 hsf
  have hsat : ∀ k, k < said.length → said.getD k ⟨none, 0, 0, []⟩ ∈ said := fun k hk => by rw [List.getD_eq_getElem?_getD, List.getElem?_eq_getElem hk]; simp
  have hsl : ∀ k, k < said.length → (said.map Pk.l).getD k [] = (said.getD k ⟨none, 0, 0, []⟩).l := fun k hk => by simp [List.getD_eq_getElem?_getD, hk]
  have hbat : ∀ k, k < body.length → Sm (body.getD k []) := fun k hk => hbs _ (by rw [List.getD_eq_getElem?_getD, List.getElem?_eq_getElem hk]; simp)
  refine H.seq ?_
  refine H.region ?_
  refine Ops.quiet (Qt.assign rfl) rfl ?_
  refine Ops.nil ?_
  refine H.then_normal ?_
  refine H.seq ?_
  refine H.seq ?_
  refine H.region ?_
  refine Ops.quiet (Qt.move rfl) rfl ?_
  refine Ops.quiet (Qt.len_sl (ats := #[]) rfl (tk rfl)) rfl ?_
  refine Ops.quiet (Qt.gtr rfl rfl) rfl ?_
  refine Ops.quiet (Qt.move rfl) rfl ?_
  refine Ops.guard rfl rfl rfl rfl (fun g29 => ?_) (fun g29 => ?_)
  · have g29' := g29
    try simp only [decide_eq_true_eq, decide_eq_false_iff_not, beq_iff_eq, beq_eq_false_iff_ne, bne_iff_ne, ne_eq, Bool.not_eq_true', Bool.not_eq_false', bne_eq_false_iff_eq, Bool.not_eq_eq_eq_not, Bool.not_true, Bool.not_false] at g29'
    refine Ops.quiet (Qt.move rfl) rfl ?_
    refine Ops.guard_yes rfl rfl rfl rfl g29 ?_
    refine Ops.quiet (Qt.len_sl (ats := #[]) rfl (tk rfl)) rfl ?_
    refine Ops.guard_yes rfl rfl rfl rfl g29 ?_
    refine Ops.quiet (Qt.gtr rfl rfl) rfl ?_
    refine Ops.quiet (Qt.pick_f rfl rfl g29) rfl ?_
    refine Ops.quiet (Qt.move rfl) rfl ?_
    refine Ops.guard rfl rfl rfl rfl (fun g34 => ?_) (fun g34 => ?_)
    · have g34' := g34
      try simp only [decide_eq_true_eq, decide_eq_false_iff_not, beq_iff_eq, beq_eq_false_iff_ne, bne_iff_ne, ne_eq, Bool.not_eq_true', Bool.not_eq_false', bne_eq_false_iff_eq, Bool.not_eq_eq_eq_not, Bool.not_true, Bool.not_false] at g34'
      refine Ops.quiet (Qt.move rfl) rfl ?_
      refine Ops.guard_yes rfl rfl rfl rfl g34 ?_
      refine Ops.quiet (Qt.len_sl (ats := #[]) rfl (tk rfl)) rfl ?_
      refine Ops.guard_yes rfl rfl rfl rfl g34 ?_
      refine Ops.quiet (Qt.gtr rfl rfl) rfl ?_
      refine Ops.quiet (Qt.pick_f rfl rfl g34) rfl ?_
      refine Ops.quiet (Qt.move rfl) rfl ?_
      refine Ops.guard rfl rfl rfl rfl (fun g39 => ?_) (fun g39 => ?_)
      · have g39' := g39
        try simp only [decide_eq_true_eq, decide_eq_false_iff_not, beq_iff_eq, beq_eq_false_iff_ne, bne_iff_ne, ne_eq, Bool.not_eq_true', Bool.not_eq_false', bne_eq_false_iff_eq, Bool.not_eq_eq_eq_not, Bool.not_true, Bool.not_false] at g39'
        refine Ops.quiet (Qt.move rfl) rfl ?_
        refine Ops.guard_yes rfl rfl rfl rfl g39 ?_
        refine Ops.quiet (Qt.len_str rfl (tk rfl)) rfl ?_
        refine Ops.guard_yes rfl rfl rfl rfl g39 ?_
        refine Ops.quiet (Qt.gtr rfl rfl) rfl ?_
        refine Ops.quiet (Qt.pick_f rfl rfl g39) rfl ?_
        refine Ops.nil ?_
        refine H.then_normal ?_
        refine H.cond rfl (fun h43 => ?_) (fun h43 => ?_)
        · try simp only [decide_eq_true_eq, decide_eq_false_iff_not, beq_iff_eq, beq_eq_false_iff_ne, bne_iff_ne, ne_eq, Bool.not_eq_true', Bool.not_eq_false', bne_eq_false_iff_eq, Bool.not_eq_eq_eq_not, Bool.not_true, Bool.not_false] at h43
          refine H.seq ?_
          refine H.region ?_
          refine Ops.eff (Ef.call (fok fab_all rfl Tryd.func7 rfl) rfl (spec_answers w0 hG _)) rfl ?_
          rintro _ _ ⟨rfl, rfl⟩
          refine Ops.quiet (Qt.assign rfl) rfl ?_
          refine Ops.nil ?_
          refine H.then_normal ?_
          refine H.ret ?_
          refine H.then_ret ?_
          refine (H.ends rfl (.cons (.tmp rfl) .nil) ?_)
          rfl
        · try simp only [decide_eq_true_eq, decide_eq_false_iff_not, beq_iff_eq, beq_eq_false_iff_ne, bne_iff_ne, ne_eq, Bool.not_eq_true', Bool.not_eq_false', bne_eq_false_iff_eq, Bool.not_eq_eq_eq_not, Bool.not_true, Bool.not_false] at h43
          refine H.skip ?_
          refine H.then_normal ?_
          refine H.seq ?_
          refine H.region ?_
          refine Ops.quiet (Qt.assign rfl) rfl ?_
          refine Ops.nil ?_
          refine H.then_normal ?_
          refine H.seq ?_
          refine H.seq ?_
          refine H.region ?_
          refine Ops.quiet (Qt.assign rfl) rfl ?_
          refine Ops.nil ?_
          refine H.then_normal ?_
          refine H.block ?_
          refine H.loop (X := Nat) (fun k => [(0, str host), (1, str frm), (2, .slice tA tn tc), (3, .slice bA bn bc), (4, .slice sA sn sc), (5, .int .u8 lost), (13, num (tot (body.take k))), (14, num k)]) (fun k => cs) (fun k => k ≤ bn) (fun k => bn - k) 0 (Nat.zero_le _) (by repeat (first | exact trivial | refine ⟨rfl, ?_⟩)) (fun w hw => hw) ?_
          intro k hk
          have hq := tot_le (l := body.take k) (m := 1000000000000000) (fun s hs => hbs s (List.mem_of_mem_take hs))
          rw [List.length_take] at hq
          refine H.seq ?_
          refine H.seq ?_
          refine H.region ?_
          refine Ops.quiet (Qt.move rfl) rfl ?_
          refine Ops.quiet (Qt.move rfl) rfl ?_
          refine Ops.quiet (Qt.len_sl (ats := #[]) rfl (tk rfl)) rfl ?_
          refine Ops.quiet (Qt.lss rfl rfl) rfl ?_
          refine Ops.nil ?_
          refine H.then_normal ?_
          refine H.cond rfl (fun h48 => ?_) (fun h48 => ?_)
          · try simp only [decide_eq_true_eq, decide_eq_false_iff_not, beq_iff_eq, beq_eq_false_iff_ne, bne_iff_ne, ne_eq, Bool.not_eq_true', Bool.not_eq_false', bne_eq_false_iff_eq, Bool.not_eq_eq_eq_not, Bool.not_true, Bool.not_false] at h48
            have hk' : k < body.length := by omega
            have hz : ((tot (body.take (k + 1)) : Nat) : Int) = (tot (body.take k) : Int) + ((body.getD (k : Int).toNat []).length : Int) := by show _ = (tot (body.take k) : Int) + ((body.getD k []).length : Int); rw [tot_take body k hk']; omega
            have hsm : (body.getD (k : Int).toNat []).length ≤ 1000000000000000 := hbat k hk'
            refine H.skip ?_
            refine H.then_normal ?_
            refine H.seq ?_
            refine H.block ?_
            refine H.region ?_
            refine Ops.quiet (Qt.move rfl) rfl ?_
            refine Ops.quiet (Qt.move rfl) rfl ?_
            refine Ops.quiet (Qt.move rfl) rfl ?_
            refine Ops.quiet (Qt.indexAddr rfl rfl (tk rfl) (tk rfl) rfl (by repeat (first | assumption | exact Reads.of_head | apply Reads.tail)) (by omega) (by omega)) rfl ?_
            refine Ops.quiet (Qt.load_map ([] : List UInt8) rfl (tk rfl) rfl (by repeat (first | assumption | exact Reads.of_head | apply Reads.tail)) (by omega)) rfl ?_
            refine Ops.quiet (Qt.len_str rfl (tk rfl)) rfl ?_
            refine Ops.quiet (Qt.add64 rfl rfl (by omega) (by omega)) rfl ?_
            refine Ops.quiet (Qt.assign rfl) rfl ?_
            refine Ops.nil ?_
            refine H.blk_normal ?_
            refine H.then_normal ?_
            refine H.region ?_
            refine Ops.quiet (Qt.move rfl) rfl ?_
            refine Ops.quiet (Qt.add64 rfl rfl (by omega) (by omega)) rfl ?_
            refine Ops.quiet (Qt.assign rfl) rfl ?_
            refine Ops.nil ?_
            refine H.then_normal ?_
            refine H.round (k + 1) (by omega) (by omega) (by rw [hz]; repeat (first | exact trivial | refine ⟨rfl, ?_⟩)) (fun w hw => hw)
          · try simp only [decide_eq_true_eq, decide_eq_false_iff_not, beq_iff_eq, beq_eq_false_iff_ne, bne_iff_ne, ne_eq, Bool.not_eq_true', Bool.not_eq_false', bne_eq_false_iff_eq, Bool.not_eq_eq_eq_not, Bool.not_true, Bool.not_false] at h48
            refine H.exit ?_
            refine H.then_exit ?_
            refine H.then_exit ?_
            refine H.blk_hit ?_
            refine H.then_normal ?_
            refine H.seq ?_
            refine H.seq ?_
            have e1 : body.take k = body := List.take_of_length_le (by omega)
            rw [e1] at hq ⊢
            refine H.region ?_
            refine Ops.quiet (Qt.assign rfl) rfl ?_
            refine Ops.nil ?_
            refine H.then_normal ?_
            refine H.block ?_
            refine H.loop (X := Nat) (fun j => [(0, str host), (1, str frm), (2, .slice tA tn tc), (3, .slice bA bn bc), (4, .slice sA sn sc), (5, .int .u8 lost), (13, num (tot body + tot ((said.map Pk.l).take j))), (15, num j)]) (fun j => cs) (fun j => j ≤ sn) (fun j => sn - j) 0 (Nat.zero_le _) (by repeat (first | exact trivial | refine ⟨rfl, ?_⟩)) (fun w hw => hw) ?_
            intro j hj
            have hq2 := tot_le (l := (said.map Pk.l).take j) (m := 1000000000000000) (fun s hs => by
              obtain ⟨p, hp, rfl⟩ := List.mem_map.1 (List.mem_of_mem_take hs)
              exact hss p hp)
            rw [List.length_take, List.length_map] at hq2
            refine H.seq ?_
            refine H.seq ?_
            refine H.region ?_
            refine Ops.quiet (Qt.move rfl) rfl ?_
            refine Ops.quiet (Qt.move rfl) rfl ?_
            refine Ops.quiet (Qt.len_sl (ats := #[]) rfl (tk rfl)) rfl ?_
            refine Ops.quiet (Qt.lss rfl rfl) rfl ?_
            refine Ops.nil ?_
            refine H.then_normal ?_
            refine H.cond rfl (fun h61 => ?_) (fun h61 => ?_)
            · try simp only [decide_eq_true_eq, decide_eq_false_iff_not, beq_iff_eq, beq_eq_false_iff_ne, bne_iff_ne, ne_eq, Bool.not_eq_true', Bool.not_eq_false', bne_eq_false_iff_eq, Bool.not_eq_eq_eq_not, Bool.not_true, Bool.not_false] at h61
              have hj' : j < said.length := by omega
              have hpm := hsat j hj'
              have hpf := hsf _ hpm
              have hps := hss _ hpm
              have hz : (tot body : Int) + ((tot ((said.map Pk.l).take (j + 1)) : Nat) : Int) = (tot body : Int) + (tot ((said.map Pk.l).take j) : Int) + ((said.getD (j : Int).toNat ⟨none, 0, 0, []⟩).n : Int) := by
                show _ = (tot body : Int) + (tot ((said.map Pk.l).take j) : Int) + ((said.getD j ⟨none, 0, 0, []⟩).n : Int)
                rw [tot_take _ j (by rw [List.length_map]; exact hj'), hsl j hj', ← hpf.1]; omega
              have hsm : ((said.getD (j : Int).toNat ⟨none, 0, 0, []⟩).n : Int) ≤ 1000000000000000 := by
                show ((said.getD j ⟨none, 0, 0, []⟩).n : Int) ≤ _
                rw [← hpf.1]; simp only [Sm] at hps; omega
              refine H.skip ?_
              refine H.then_normal ?_
              refine H.seq ?_
              refine H.block ?_
              refine H.region ?_
              refine Ops.quiet (Qt.move rfl) rfl ?_
              refine Ops.quiet (Qt.move rfl) rfl ?_
              refine Ops.quiet (Qt.move rfl) rfl ?_
              refine Ops.quiet (Qt.indexAddr rfl rfl (tk rfl) (tk rfl) rfl (by repeat (first | assumption | exact Reads.of_head | apply Reads.tail)) (by omega) (by omega)) rfl ?_
              refine Ops.quiet (Qt.load_map (f := slv) (⟨none, 0, 0, []⟩ : Pk) rfl (tk rfl) rfl (by repeat (first | assumption | exact Reads.of_head | apply Reads.tail)) (by omega)) rfl ?_
              refine Ops.quiet (Qt.len_sl (ats := #[]) rfl (tk rfl)) rfl ?_
              refine Ops.quiet (Qt.add64 rfl rfl (by omega) (by omega)) rfl ?_
              refine Ops.quiet (Qt.assign rfl) rfl ?_
              refine Ops.nil ?_
              refine H.blk_normal ?_
              refine H.then_normal ?_
              refine H.region ?_
              refine Ops.quiet (Qt.move rfl) rfl ?_
              refine Ops.quiet (Qt.add64 rfl rfl (by omega) (by omega)) rfl ?_
              refine Ops.quiet (Qt.assign rfl) rfl ?_
              refine Ops.nil ?_
              refine H.then_normal ?_
              refine H.round (j + 1) (by omega) (by omega) (by rw [hz]; repeat (first | exact trivial | refine ⟨rfl, ?_⟩)) (fun w hw => hw)
            · try simp only [decide_eq_true_eq, decide_eq_false_iff_not, beq_iff_eq, beq_eq_false_iff_ne, bne_iff_ne, ne_eq, Bool.not_eq_true', Bool.not_eq_false', bne_eq_false_iff_eq, Bool.not_eq_eq_eq_not, Bool.not_true, Bool.not_false] at h61
              refine H.exit ?_
              refine H.then_exit ?_
              refine H.then_exit ?_
              refine H.blk_hit ?_
              refine H.then_normal ?_
              refine H.seq ?_
              refine H.seq ?_
              refine H.region ?_
              refine Ops.quiet (Qt.move rfl) rfl ?_
              refine Ops.quiet (Qt.gtr rfl rfl) rfl ?_
              refine Ops.nil ?_
              refine H.then_normal ?_
              refine H.cond rfl (fun h72 => ?_) (fun h72 => ?_)
              · try simp only [decide_eq_true_eq, decide_eq_false_iff_not, beq_iff_eq, beq_eq_false_iff_ne, bne_iff_ne, ne_eq, Bool.not_eq_true', Bool.not_eq_false', bne_eq_false_iff_eq, Bool.not_eq_eq_eq_not, Bool.not_true, Bool.not_false] at h72
                refine H.seq ?_
                refine H.region ?_
                refine Ops.eff (Ef.call (fok fab_all rfl Tryd.func7 rfl) rfl (spec_answers w0 hG _)) rfl ?_
                rintro _ _ ⟨rfl, rfl⟩
                refine Ops.quiet (Qt.assign rfl) rfl ?_
                refine Ops.nil ?_
                refine H.then_normal ?_
                refine H.ret ?_
                refine H.then_ret ?_
                refine (H.ends rfl (.cons (.tmp rfl) .nil) ?_)
                rfl
              · try simp only [decide_eq_true_eq, decide_eq_false_iff_not, beq_iff_eq, beq_eq_false_iff_ne, bne_iff_ne, ne_eq, Bool.not_eq_true', Bool.not_eq_false', bne_eq_false_iff_eq, Bool.not_eq_eq_eq_not, Bool.not_true, Bool.not_false] at h72
                have e2 : (said.map Pk.l).take j = said.map Pk.l := List.take_of_length_le (by rw [List.length_map]; omega)
                rw [e2] at h72
                have hbl : body.length ≤ 100 := by omega
                have htl : targets.length ≤ 60 := by omega
                have hbt : sizeL body + body.length ≤ 4611686018427387904 := by rw [sizeL_tot]; omega
                have hnp := new_pv (host := host) (frm := frm) (targets := targets) (body := body) hh hf hts (by omega) (by omega)
                have hbig : ∀ j, tot ((said.map Pk.l).take j) ≤ 100000 := by
                  intro j
                  have : tot (said.map Pk.l) = tot ((said.map Pk.l).take j) + tot ((said.map Pk.l).drop j) := by
                    conv => lhs; rw [← List.take_append_drop j (said.map Pk.l)]
                    simp only [tot, List.map_append, List.sum_append]
                  omega
                refine H.skip ?_
                refine H.then_normal ?_
                refine H.seq ?_
                refine H.region ?_
                refine Ops.quiet (Qt.move rfl) rfl ?_
                refine Ops.quiet (Qt.move rfl) rfl ?_
                refine Ops.quiet (Qt.move rfl) rfl ?_
                refine Ops.quiet (Qt.move rfl) rfl ?_
                refine Ops.eff (Ef.call (fok fab_all rfl Tryd.func8 rfl) rfl (spec_new w0 host frm targets body _ (by repeat (first | assumption | exact Reads.of_head | apply Reads.tail)) (by repeat (first | assumption | exact Reads.of_head | apply Reads.tail)) (by omega) (by omega))) rfl ?_
                rintro _ _ ⟨b1, rfl, rfl⟩
                refine Ops.quiet (Qt.assign rfl) rfl ?_
                refine Ops.nil ?_
                refine H.then_normal ?_
                refine H.seq ?_
                refine H.region ?_
                refine Ops.quiet (Qt.move rfl) rfl ?_
                refine Ops.quiet (Qt.move rfl) rfl ?_
                refine Ops.quiet (Qt.move rfl) rfl ?_
                refine Ops.quiet (Qt.move rfl) rfl ?_
                refine Ops.eff (Ef.call (fok fab_all rfl Tryd.func9 rfl) rfl (spec_rnewC w0 host frm targets body _ (by repeat (first | assumption | exact Reads.of_head | apply Reads.tail)) (by repeat (first | assumption | exact Reads.of_head | apply Reads.tail)) (by omega) (by omega) (fun s hs => by have := hbs s hs; simp only [Sm] at this; omega))) rfl ?_
                rintro _ _ ⟨b2, rfl, rfl⟩
                refine Ops.quiet (Qt.assign rfl) rfl ?_
                refine Ops.nil ?_
                refine H.then_normal ?_
                refine H.seq ?_
                refine H.seq ?_
                refine H.region ?_
                refine Ops.quiet (Qt.assign rfl) rfl ?_
                refine Ops.nil ?_
                refine H.then_normal ?_
                refine H.block ?_
                refine H.loop (X := Cl × Nat) (fun p => [(0, str host), (1, str frm), (2, .slice tA tn tc), (3, .slice bA bn bc), (4, .slice sA sn sc), (5, .int .u8 lost), (16, ptr b1), (17, ptr b2), (18, num p.2)]) (fun p => client b1 p.1 :: refc b2 ⟨tA, tn, tc, bA, bn, bc⟩ p.1 :: cs) (fun p => Pv targets body (tot ((said.map Pk.l).take p.2)) p.1 ∧ p.1.out = [] ∧ p.2 ≤ sn + 1) (fun p => sn + 1 - p.2) (Cl.new host frm targets body, 0) ⟨hnp.1, hnp.2, Nat.zero_le _⟩ (by repeat (first | exact trivial | refine ⟨rfl, ?_⟩)) (fun w hw => hw.perm (.swap _ _ _)) ?_
                rintro ⟨c, i⟩ ⟨hpv, hout, hi⟩
                simp only at hpv hout hi
                change H _ _ [(0, str host), (1, str frm), (2, .slice tA tn tc), (3, .slice bA bn bc), (4, .slice sA sn sc), (5, .int .u8 lost), (16, ptr b1), (17, ptr b2), (18, num (i : Int))] (client b1 c :: refc b2 ⟨tA, tn, tc, bA, bn, bc⟩ c :: cs) _
                have hB := hbig i
                refine H.seq ?_
                refine H.seq ?_
                refine H.region ?_
                refine Ops.quiet (Qt.move rfl) rfl ?_
                refine Ops.quiet (Qt.move rfl) rfl ?_
                refine Ops.quiet (Qt.len_sl (ats := #[]) rfl (tk rfl)) rfl ?_
                refine Ops.quiet (Qt.leq rfl rfl) rfl ?_
                refine Ops.nil ?_
                refine H.then_normal ?_
                refine H.cond rfl (fun h87 => ?_) (fun h87 => ?_)
                · try simp only [decide_eq_true_eq, decide_eq_false_iff_not, beq_iff_eq, beq_eq_false_iff_ne, bne_iff_ne, ne_eq, Bool.not_eq_true', Bool.not_eq_false', bne_eq_false_iff_eq, Bool.not_eq_eq_eq_not, Bool.not_true, Bool.not_false] at h87
                  refine H.skip ?_
                  refine H.then_normal ?_
                  refine H.seq ?_
                  refine H.block ?_
                  refine H.seq ?_
                  refine H.seq ?_
                  refine H.region ?_
                  refine Ops.quiet (Qt.move rfl) rfl ?_
                  refine Ops.quiet (Qt.move rfl) rfl ?_
                  refine Ops.quiet (Qt.len_sl (ats := #[]) rfl (tk rfl)) rfl ?_
                  refine Ops.quiet (Qt.lss rfl rfl) rfl ?_
                  refine Ops.nil ?_
                  refine H.then_normal ?_
                  refine H.cond rfl (fun h93 => ?_) (fun h93 => ?_)
                  · try simp only [decide_eq_true_eq, decide_eq_false_iff_not, beq_iff_eq, beq_eq_false_iff_ne, bne_iff_ne, ne_eq, Bool.not_eq_true', Bool.not_eq_false', bne_eq_false_iff_eq, Bool.not_eq_eq_eq_not, Bool.not_true, Bool.not_false] at h93
                    have hi' : i < said.length := by omega
                    have hpm := hsat i hi'
                    have hrp := hsb _ hpm
                    have hpf := hsf _ hpm
                    have hz : tot ((said.map Pk.l).take (i + 1)) = tot ((said.map Pk.l).take i) + (said.getD i ⟨none, 0, 0, []⟩).l.length := by rw [tot_take _ i (by rw [List.length_map]; exact hi'), hsl i hi']
                    have hB2 := hbig (i + 1)
                    have hpo := hpv.o
                    have hpr := hpv.r
                    refine H.seq ?_
                    refine H.region ?_
                    refine Ops.quiet (Qt.move rfl) rfl ?_
                    refine Ops.quiet (Qt.move rfl) rfl ?_
                    refine Ops.quiet (Qt.move rfl) rfl ?_
                    refine Ops.quiet (Qt.indexAddr rfl rfl (tk rfl) (tk rfl) rfl (by repeat (first | assumption | exact Reads.of_head | apply Reads.tail)) (by omega) (by omega)) rfl ?_
                    refine Ops.quiet (Qt.load_map (f := slv) (⟨none, 0, 0, []⟩ : Pk) rfl (tk rfl) rfl (by repeat (first | assumption | exact Reads.of_head | apply Reads.tail)) (by omega)) rfl ?_
                    refine Ops.eff (Ef.call (fok fab_all rfl Tryd.func10 rfl) rfl (spec_feed w0 hG b1 c (said.getD i ⟨none, 0, 0, []⟩).l _ (Reads.tail hrp) hpv.inv (by omega) (by omega))) rfl ?_
                    rintro _ _ ⟨rfl, rfl⟩
                    refine Ops.nil ?_
                    refine H.then_normal ?_
                    refine H.region ?_
                    refine Ops.quiet (Qt.move rfl) rfl ?_
                    refine Ops.quiet (Qt.move rfl) rfl ?_
                    refine Ops.quiet (Qt.move rfl) rfl ?_
                    refine Ops.quiet (Qt.indexAddr rfl rfl (tk rfl) (tk rfl) rfl (by repeat (first | assumption | exact Reads.of_head | apply Reads.tail)) (by omega) (by omega)) rfl ?_
                    refine Ops.quiet (Qt.load_map (f := slv) (⟨none, 0, 0, []⟩ : Pk) rfl (tk rfl) rfl (by repeat (first | assumption | exact Reads.of_head | apply Reads.tail)) (by omega)) rfl ?_
                    refine Ops.eff (Ef.call (fok fab_all rfl Tryd.func11 rfl) rfl (Spec.conv (fun w hw => hw.perm (.swap _ _ _)) (spec_rfeedC w0 b2 ⟨tA, tn, tc, bA, bn, bc⟩ c (said.getD i ⟨none, 0, 0, []⟩).l body _ (Reads.tail hrp) hpv.inv (by omega) (by omega) (by rw [hpv.tg]; exact Reads.tail ht) (Reads.tail hb) hpv.bd hbt hpv.rc))) rfl ?_
                    rintro _ _ ⟨rfl, rfl⟩
                    refine Ops.nil ?_
                    refine H.then_normal ?_
                    refine H.seq ?_
                    refine H.seq ?_
                    obtain ⟨d, hd⟩ : ∃ d, d = c.feed (said.getD i ⟨none, 0, 0, []⟩).l := ⟨_, rfl⟩
                    have hdv : Pv targets body (tot ((said.map Pk.l).take (i + 1))) d := by rw [hd, hz]; exact feed_pv hpv _
                    rw [← hd]
                    refine H.perm (.swap _ _ _) ?_
                    refine H.region ?_
                    refine Ops.quiet (Qt.move rfl) rfl ?_
                    refine Ops.quiet (Qt.move rfl) rfl ?_
                    refine Ops.quiet (Qt.conv_int rfl (tk rfl) (tk rfl)) rfl ?_
                    refine Ops.quiet (Qt.eql rfl rfl) rfl ?_
                    refine Ops.nil ?_
                    refine H.then_normal ?_
                    refine H.cond rfl (fun h109 => ?_) (fun h109 => ?_)
                    · try simp only [decide_eq_true_eq, decide_eq_false_iff_not, beq_iff_eq, beq_eq_false_iff_ne, bne_iff_ne, ne_eq, Bool.not_eq_true', Bool.not_eq_false', bne_eq_false_iff_eq, Bool.not_eq_eq_eq_not, Bool.not_true, Bool.not_false] at h109
                      refine H.seq ?_
                      refine H.region ?_
                      refine Ops.quiet (Qt.move rfl) rfl ?_
                      refine Ops.eff (Ef.call (fok fab_all rfl Tryd.func12 rfl) rfl (spec_lost w0 b1 d _)) rfl ?_
                      rintro _ _ ⟨rfl, rfl⟩
                      refine Ops.nil ?_
                      refine H.then_normal ?_
                      refine H.region ?_
                      refine Ops.quiet (Qt.move rfl) rfl ?_
                      refine Ops.eff (Ef.call (fok fab_all rfl Tryd.func13 rfl) rfl (Spec.conv (fun w hw => hw.perm (.swap _ _ _)) (spec_rlost w0 b2 ⟨tA, tn, tc, bA, bn, bc⟩ d _))) rfl ?_
                      rintro _ _ ⟨rfl, rfl⟩
                      refine Ops.nil ?_
                      refine H.then_normal ?_
                      refine H.seq ?_
                      refine H.seq ?_
                      obtain ⟨g, hg⟩ : ∃ g, g = d.lost := ⟨_, rfl⟩
                      have hgv : Pv targets body (tot ((said.map Pk.l).take (i + 1))) g := by rw [hg]; exact lost_pv hdv
                      rw [← hg]
                      refine H.perm (.swap _ _ _) ?_
                      refine H.region ?_
                      refine Ops.quiet (Qt.assign rfl) rfl ?_
                      refine Ops.nil ?_
                      refine H.then_normal ?_
                      refine H.block ?_
                      refine H.perm (.swap _ _ _) ?_
                      refine H.open_refc fun st cd wA wn wc rA rn rc kA kn kc hsc ⟨wl1, wl2, wl3⟩ ⟨ol1, ol2, ol3⟩ ⟨kl1, kl2, kl3⟩ => ?_
                      refine H.fr4 ?_
                      refine H.loop (X := Nat) (fun m => [(0, str host), (1, str frm), (2, .slice tA tn tc), (3, .slice bA bn bc), (4, .slice sA sn sc), (5, .int .u8 lost), (16, ptr b1), (17, ptr b2), (18, num (i : Int)), (19, num m)]) (fun m => client b1 { g with out := g.out.drop m } :: blk b2 [str g.host, str g.frm, .slice tA tn tc, .slice bA bn bc, .slice wA wn wc, num cd, .slice rA rn rc, num st, .slice kA kn kc, bol g.over] 33 :: osl 5 wA wn wc (g.wait.map u8v) :: osl 9 rA rn rc (g.out.map str) :: osl 3 kA kn kc (g.codes.map num) :: cs) (fun m => m ≤ rn) (fun m => rn - m) 0 (Nat.zero_le _) (by repeat (first | exact trivial | refine ⟨rfl, ?_⟩)) (fun w hw => hw) ?_
                      intro m hm
                      refine H.seq ?_
                      refine H.seq ?_
                      refine H.region ?_
                      refine Ops.quiet (Qt.move rfl) rfl ?_
                      refine Ops.quiet (Qt.move rfl) rfl ?_
                      refine Ops.quiet (Qt.nilCheck rfl) rfl ?_
                      refine Ops.quiet (Qt.fieldAddr rfl (tk rfl) rfl) rfl ?_
                      refine Ops.quiet (Qt.load rfl (tk rfl) rfl (by repeat (first | exact List.Mem.head _ | apply List.Mem.tail)) (by rfl)) rfl ?_
                      refine Ops.quiet (Qt.len_sl (ats := #[]) rfl (tk rfl)) rfl ?_
                      refine Ops.quiet (Qt.lss rfl rfl) rfl ?_
                      refine Ops.nil ?_
                      refine H.then_normal ?_
                      refine H.cond rfl (fun h120 => ?_) (fun h120 => ?_)
                      · try simp only [decide_eq_true_eq, decide_eq_false_iff_not, beq_iff_eq, beq_eq_false_iff_ne, bne_iff_ne, ne_eq, Bool.not_eq_true', Bool.not_eq_false', bne_eq_false_iff_eq, Bool.not_eq_eq_eq_not, Bool.not_true, Bool.not_false] at h120
                        have hm' : m < g.out.length := by omega
                        have hlt : (0 < (g.out.drop m).length) := by rw [List.length_drop]; omega
                        have hg0 : (g.out.drop m).getD 0 [] = g.out.getD m [] := by simp [List.getD_eq_getElem?_getD]
                        have hnx := fun fr => spec_Next w0 b1 { g with out := g.out.drop m } fr
                        simp only [hg0, List.drop_drop, decide_eq_true hlt] at hnx
                        refine H.skip ?_
                        refine H.then_normal ?_
                        refine H.seq ?_
                        refine H.block ?_
                        refine H.seq ?_
                        refine H.region ?_
                        refine Ops.quiet (Qt.move rfl) rfl ?_
                        refine Ops.eff (Ef.call (fok fab_all rfl Tryd.func14 rfl) rfl (hnx _)) rfl ?_
                        rintro _ _ ⟨rfl, rfl⟩
                        refine Ops.quiet (Qt.move rfl) rfl ?_
                        refine Ops.quiet (Qt.extract rfl rfl) rfl ?_
                        refine Ops.quiet (Qt.extract rfl rfl) rfl ?_
                        refine Ops.quiet (Qt.assign rfl) rfl ?_
                        refine Ops.quiet (Qt.assign rfl) rfl ?_
                        refine Ops.nil ?_
                        refine H.then_normal ?_
                        refine H.seq ?_
                        refine H.region ?_
                        refine Ops.quiet (Qt.move rfl) rfl ?_
                        refine Ops.quiet (Qt.not rfl) rfl ?_
                        refine Ops.quiet (Qt.move rfl) rfl ?_
                        refine Ops.guard rfl rfl rfl rfl (fun g130 => ?_) (fun g130 => ?_)
                        · have g130' := g130
                          try simp only [decide_eq_true_eq, decide_eq_false_iff_not, beq_iff_eq, beq_eq_false_iff_ne, bne_iff_ne, ne_eq, Bool.not_eq_true', Bool.not_eq_false', bne_eq_false_iff_eq, Bool.not_eq_eq_eq_not, Bool.not_true, Bool.not_false] at g130'
                          refine Ops.quiet (Qt.move rfl) rfl ?_
                          refine Ops.guard_yes rfl rfl rfl rfl g130 ?_
                          refine Ops.quiet (Qt.move rfl) rfl ?_
                          refine Ops.guard_yes rfl rfl rfl rfl g130 ?_
                          refine Ops.quiet (Qt.nilCheck rfl) rfl ?_
                          refine Ops.guard_yes rfl rfl rfl rfl g130 ?_
                          refine Ops.quiet (Qt.fieldAddr rfl (tk rfl) rfl) rfl ?_
                          refine Ops.guard_yes rfl rfl rfl rfl g130 ?_
                          refine Ops.quiet (Qt.load rfl (tk rfl) rfl (by repeat (first | exact List.Mem.head _ | apply List.Mem.tail)) (by rfl)) rfl ?_
                          refine Ops.guard_yes rfl rfl rfl rfl g130 ?_
                          refine Ops.quiet (Qt.move rfl) rfl ?_
                          refine Ops.guard_yes rfl rfl rfl rfl g130 ?_
                          refine Ops.quiet (Qt.indexAddr rfl rfl (tk rfl) (tk rfl) rfl (by repeat (first | assumption | exact Reads.of_head | apply Reads.tail)) (by omega) (by omega)) rfl ?_
                          refine Ops.guard_yes rfl rfl rfl rfl g130 ?_
                          refine Ops.quiet (Qt.load_map ([] : List UInt8) rfl (tk rfl) rfl (by repeat (first | assumption | exact Reads.of_head | apply Reads.tail)) (by omega)) rfl ?_
                          refine Ops.guard_yes rfl rfl rfl rfl g130 ?_
                          refine Ops.quiet (Qt.sne rfl rfl) rfl ?_
                          refine Ops.quiet (Qt.pick_f rfl rfl g130) rfl ?_
                          refine Ops.nil ?_
                          refine H.then_normal ?_
                          refine H.cond rfl (fun h140 => ?_) (fun h140 => ?_)
                          · try simp only [decide_eq_true_eq, decide_eq_false_iff_not, beq_iff_eq, beq_eq_false_iff_ne, bne_iff_ne, ne_eq, Bool.not_eq_true', Bool.not_eq_false', bne_eq_false_iff_eq, Bool.not_eq_eq_eq_not, Bool.not_true, Bool.not_false] at h140
                            exact absurd rfl h140
                          · try simp only [decide_eq_true_eq, decide_eq_false_iff_not, beq_iff_eq, beq_eq_false_iff_ne, bne_iff_ne, ne_eq, Bool.not_eq_true', Bool.not_eq_false', bne_eq_false_iff_eq, Bool.not_eq_eq_eq_not, Bool.not_true, Bool.not_false] at h140
                            refine H.skip ?_
                            refine H.blk_normal ?_
                            refine H.then_normal ?_
                            refine H.region ?_
                            refine Ops.quiet (Qt.move rfl) rfl ?_
                            refine Ops.quiet (Qt.add64 rfl rfl (by omega) (by omega)) rfl ?_
                            refine Ops.quiet (Qt.assign rfl) rfl ?_
                            refine Ops.nil ?_
                            refine H.then_normal ?_
                            refine H.round (m + 1) (by omega) (by omega) (by repeat (first | exact trivial | refine ⟨rfl, ?_⟩)) (fun w hw => hw)
                        · have g130' := g130
                          try simp only [decide_eq_true_eq, decide_eq_false_iff_not, beq_iff_eq, beq_eq_false_iff_ne, bne_iff_ne, ne_eq, Bool.not_eq_true', Bool.not_eq_false', bne_eq_false_iff_eq, Bool.not_eq_eq_eq_not, Bool.not_true, Bool.not_false] at g130'
                          exact Bool.noConfusion g130
                      · try simp only [decide_eq_true_eq, decide_eq_false_iff_not, beq_iff_eq, beq_eq_false_iff_ne, bne_iff_ne, ne_eq, Bool.not_eq_true', Bool.not_eq_false', bne_eq_false_iff_eq, Bool.not_eq_eq_eq_not, Bool.not_true, Bool.not_false] at h120
                        have hgd : g.out.drop m = [] := List.drop_of_length_le (by omega)
                        rw [hgd]
                        have hnx := fun fr => spec_Next w0 b1 { g with out := [] } fr
                        refine H.exit ?_
                        refine H.then_exit ?_
                        refine H.then_exit ?_
                        refine H.blk_hit ?_
                        refine H.then_normal ?_
                        refine H.seq ?_
                        refine H.region ?_
                        refine Ops.quiet (Qt.move rfl) rfl ?_
                        refine Ops.quiet (Qt.nilCheck rfl) rfl ?_
                        refine Ops.quiet (Qt.fieldAddr rfl (tk rfl) rfl) rfl ?_
                        refine Ops.eff (Ef.store rfl rfl (tk rfl) rfl rfl (by repeat (first | exact ones_nil | refine ones_cons rfl ?_)) (by repeat (first | exact Upd.head | apply Upd.tail)) (by rfl)) rfl ?_
                        rintro _ _ rfl
                        refine Ops.nil ?_
                        refine H.then_normal ?_
                        refine H.seq ?_
                        refine H.seq ?_
                        refine H.region ?_
                        refine Ops.quiet (Qt.move rfl) rfl ?_
                        refine Ops.eff (Ef.call (fok fab_all rfl Tryd.func14 rfl) rfl (hnx _)) rfl ?_
                        rintro _ _ ⟨rfl, rfl⟩
                        refine Ops.quiet (Qt.move rfl) rfl ?_
                        refine Ops.quiet (Qt.extract rfl rfl) rfl ?_
                        refine Ops.quiet (Qt.extract rfl rfl) rfl ?_
                        refine Ops.quiet (Qt.assign rfl) rfl ?_
                        refine Ops.quiet (Qt.assign rfl) rfl ?_
                        refine Ops.nil ?_
                        refine H.then_normal ?_
                        refine H.seq ?_
                        refine H.drawn_all 8 mixed (by kernel_rfl) ?_
                        refine Hd.quiet 0 (by kernel_rfl) rfl rfl (by kernel_rfl) rfl (Qt.move rfl) ?_
                        refine Hd.quiet 1 (by kernel_rfl) rfl rfl (by kernel_rfl) rfl (Qt.move rfl) ?_
                        refine Hd.case (d := 150) rfl (fun g150 => ?_) (fun g150 => ?_)
                        · have g150' := g150
                          try simp only [decide_eq_true_eq, decide_eq_false_iff_not, beq_iff_eq, beq_eq_false_iff_ne, bne_iff_ne, ne_eq, Bool.not_eq_true', Bool.not_eq_false', bne_eq_false_iff_eq, Bool.not_eq_eq_eq_not, Bool.not_true, Bool.not_false] at g150'
                          exact Bool.noConfusion g150
                        · have g150' := g150
                          try simp only [decide_eq_true_eq, decide_eq_false_iff_not, beq_iff_eq, beq_eq_false_iff_ne, bne_iff_ne, ne_eq, Bool.not_eq_true', Bool.not_eq_false', bne_eq_false_iff_eq, Bool.not_eq_eq_eq_not, Bool.not_true, Bool.not_false] at g150'
                          refine Hd.guard_yes 2 (by kernel_rfl) rfl rfl (by kernel_rfl) rfl rfl rfl rfl g150 (Qt.move rfl) ?_
                          refine Hd.guard_yes 4 (by kernel_rfl) rfl rfl (by kernel_rfl) rfl rfl rfl rfl g150 (Qt.move rfl) ?_
                          refine Hd.guard_yes 5 (by kernel_rfl) rfl rfl (by kernel_rfl) rfl rfl rfl rfl g150 (Qt.nilCheck rfl) ?_
                          refine Hd.guard_yes 6 (by kernel_rfl) rfl rfl (by kernel_rfl) rfl rfl rfl rfl g150 (Qt.fieldAddr rfl (tk rfl) rfl) ?_
                          refine Hd.guard_yes 7 (by kernel_rfl) rfl rfl (by kernel_rfl) rfl rfl rfl rfl g150 (Qt.load rfl (tk rfl) rfl (by repeat (first | exact List.Mem.head _ | apply List.Mem.tail)) (by rfl)) ?_
                          refine Hd.eff_g 3 (by intro w hw; first | exact hw | exact Own.sub (by repeat (first | exact List.Sublist.refl _ | exact List.nil_sublist _ | apply List.Sublist.cons_cons | apply List.Sublist.cons)) hw) rfl rfl (by kernel_rfl) rfl rfl rfl rfl g150 (Ef.call (fok fab_all rfl Tryd.func15 rfl) rfl (spec_Over w0 b1 { g with out := [] } _)) ?_
                          rintro _ _ ⟨rfl, rfl⟩
                          refine Hd.tail (by intro w hw; first | exact hw | exact Own.sub (by repeat (first | exact List.Sublist.refl _ | exact List.nil_sublist _ | apply List.Sublist.cons_cons | apply List.Sublist.cons)) hw) (by kernel_rfl) rfl ?_
                          refine Ops.guard_yes rfl rfl rfl rfl g150 ?_
                          refine Ops.quiet (Qt.bne rfl rfl (tk rfl)) rfl ?_
                          refine Ops.quiet (Qt.pick_f rfl rfl g150) rfl ?_
                          refine Ops.nil ?_
                          refine H.then_normal ?_
                          refine H.cond_false rfl (by simp) ?_
                          refine H.skip ?_
                          refine H.then_normal ?_
                          refine H.seq ?_
                          have hgc : g.codes.length ≤ 1000000 := by rw [hgv.inv.ok.clen, hgv.tg]; omega
                          refine H.region ?_
                          refine Ops.quiet (Qt.move rfl) rfl ?_
                          refine Ops.eff (Ef.call (fok fab_all rfl Tryd.func16 rfl) rfl (spec_Codes w0 b1 { g with out := [] } _ hgc)) rfl ?_
                          rintro _ _ ⟨A160, rfl, k160, rfl⟩
                          refine Ops.quiet (Qt.assign rfl) rfl ?_
                          refine Ops.nil ?_
                          refine H.then_normal ?_
                          refine H.seq ?_
                          refine H.seq ?_
                          refine H.region ?_
                          refine Ops.quiet (Qt.move rfl) rfl ?_
                          refine Ops.quiet (Qt.len_sl (ats := #[]) rfl (tk rfl)) rfl ?_
                          refine Ops.quiet (Qt.move rfl) rfl ?_
                          refine Ops.quiet (Qt.nilCheck rfl) rfl ?_
                          refine Ops.quiet (Qt.fieldAddr rfl (tk rfl) rfl) rfl ?_
                          refine Ops.quiet (Qt.load rfl (tk rfl) rfl (by repeat (first | exact List.Mem.head _ | apply List.Mem.tail)) (by rfl)) rfl ?_
                          refine Ops.quiet (Qt.len_sl (ats := #[]) rfl (tk rfl)) rfl ?_
                          refine Ops.quiet (Qt.neq rfl rfl) rfl ?_
                          refine Ops.nil ?_
                          refine H.then_normal ?_
                          refine H.cond_false rfl (by simp [kl1]) ?_
                          refine H.skip ?_
                          refine H.then_normal ?_
                          refine H.seq ?_
                          refine H.region ?_
                          refine Ops.quiet (Qt.assign rfl) rfl ?_
                          refine Ops.nil ?_
                          refine H.then_normal ?_
                          refine H.block ?_
                          refine H.loop (X := Nat) (fun m => [(0, str host), (1, str frm), (2, .slice tA tn tc), (3, .slice bA bn bc), (4, .slice sA sn sc), (5, .int .u8 lost), (16, ptr b1), (17, ptr b2), (18, num (i : Int)), (24, .slice A160 g.codes.length g.codes.length), (25, num m)]) (fun m => client b1 { g with out := [] } :: osl 3 A160 g.codes.length k160 (g.codes.map num) :: blk b2 [str g.host, str g.frm, .slice tA tn tc, .slice bA bn bc, .slice wA wn wc, num cd, .slice none 0 0, num st, .slice kA kn kc, bol g.over] 33 :: osl 5 wA wn wc (g.wait.map u8v) :: osl 9 rA rn rc (g.out.map str) :: osl 3 kA kn kc (g.codes.map num) :: cs) (fun m => m ≤ kn) (fun m => kn - m) 0 (Nat.zero_le _) (by repeat (first | exact trivial | refine ⟨rfl, ?_⟩)) (fun w hw => hw) ?_
                          intro q hq5
                          refine H.seq ?_
                          refine H.seq ?_
                          refine H.region ?_
                          refine Ops.quiet (Qt.move rfl) rfl ?_
                          refine Ops.quiet (Qt.move rfl) rfl ?_
                          refine Ops.quiet (Qt.len_sl (ats := #[]) rfl (tk rfl)) rfl ?_
                          refine Ops.quiet (Qt.lss rfl rfl) rfl ?_
                          refine Ops.nil ?_
                          refine H.then_normal ?_
                          refine H.cond rfl (fun h172 => ?_) (fun h172 => ?_)
                          · try simp only [decide_eq_true_eq, decide_eq_false_iff_not, beq_iff_eq, beq_eq_false_iff_ne, bne_iff_ne, ne_eq, Bool.not_eq_true', Bool.not_eq_false', bne_eq_false_iff_eq, Bool.not_eq_eq_eq_not, Bool.not_true, Bool.not_false] at h172
                            have hq6 : q < g.codes.length := by
                              have h9 : (q : Int) < g.codes.length := h172
                              omega
                            have hq7 : (q : Int) < (g.codes.length : Int) := by omega
                            have hq8 : ((q : Int).toNat) < g.codes.length := by omega
                            have hq9 : ((q : Int).toNat) < kn := by omega
                            refine H.skip ?_
                            refine H.then_normal ?_
                            refine H.seq ?_
                            refine H.block ?_
                            refine H.seq ?_
                            refine H.drawn_all 11 mixed (by kernel_rfl) ?_
                            refine Hd.quiet 0 (by kernel_rfl) rfl rfl (by kernel_rfl) rfl (Qt.move rfl) ?_
                            refine Hd.quiet 1 (by kernel_rfl) rfl rfl (by kernel_rfl) rfl (Qt.move rfl) ?_
                            refine Hd.quiet 2 (by kernel_rfl) rfl rfl (by kernel_rfl) rfl (Qt.indexAddr rfl rfl (tk rfl) (tk rfl) rfl (Reads.clip (c := k160) (xs := g.codes.map num) (by repeat (first | assumption | exact Reads.of_head | apply Reads.tail))) (by omega) (by omega)) ?_
                            refine Hd.quiet 3 (by kernel_rfl) rfl rfl (by kernel_rfl) rfl (Qt.load_map (0 : Int) rfl (tk rfl) rfl (Reads.clip (c := k160) (by repeat (first | assumption | exact Reads.of_head | apply Reads.tail))) (by omega)) ?_
                            refine Hd.quiet 4 (by kernel_rfl) rfl rfl (by kernel_rfl) rfl (Qt.move rfl) ?_
                            refine Hd.quiet 5 (by kernel_rfl) rfl rfl (by kernel_rfl) rfl (Qt.nilCheck rfl) ?_
                            refine Hd.quiet 6 (by kernel_rfl) rfl rfl (by kernel_rfl) rfl (Qt.fieldAddr rfl (tk rfl) rfl) ?_
                            refine Hd.quiet 7 (by kernel_rfl) rfl rfl (by kernel_rfl) rfl (Qt.load rfl (tk rfl) rfl (by repeat (first | exact List.Mem.head _ | apply List.Mem.tail)) (by rfl)) ?_
                            refine Hd.quiet 8 (by kernel_rfl) rfl rfl (by kernel_rfl) rfl (Qt.move rfl) ?_
                            refine Hd.quiet 9 (by kernel_rfl) rfl rfl (by kernel_rfl) rfl (Qt.indexAddr rfl rfl (tk rfl) (tk rfl) rfl (by repeat (first | assumption | exact Reads.of_head | apply Reads.tail)) (by omega) (by omega)) ?_
                            refine Hd.quiet 10 (by kernel_rfl) rfl rfl (by kernel_rfl) rfl (Qt.load_map (0 : Int) rfl (tk rfl) rfl (by repeat (first | assumption | exact Reads.of_head | apply Reads.tail)) (by omega)) ?_
                            refine Hd.tail (by intro w hw; first | exact hw | exact Own.sub (by repeat (first | exact List.Sublist.refl _ | exact List.nil_sublist _ | apply List.Sublist.cons_cons | apply List.Sublist.cons)) hw) (by kernel_rfl) rfl ?_
                            refine Ops.quiet (Qt.neq rfl rfl) rfl ?_
                            refine Ops.nil ?_
                            refine H.then_normal ?_
                            refine H.cond_false rfl (by simp) ?_
                            refine H.skip ?_
                            refine H.blk_normal ?_
                            refine H.then_normal ?_
                            refine H.region ?_
                            refine Ops.quiet (Qt.move rfl) rfl ?_
                            refine Ops.quiet (Qt.add64 rfl rfl (by omega) (by omega)) rfl ?_
                            refine Ops.quiet (Qt.assign rfl) rfl ?_
                            refine Ops.nil ?_
                            refine H.then_normal ?_
                            refine H.round (q + 1) (by omega) (by omega) (by repeat (first | exact trivial | refine ⟨rfl, ?_⟩)) (fun w hw => hw)
                          · try simp only [decide_eq_true_eq, decide_eq_false_iff_not, beq_iff_eq, beq_eq_false_iff_ne, bne_iff_ne, ne_eq, Bool.not_eq_true', Bool.not_eq_false', bne_eq_false_iff_eq, Bool.not_eq_eq_eq_not, Bool.not_true, Bool.not_false] at h172
                            refine H.exit ?_
                            refine H.then_exit ?_
                            refine H.then_exit ?_
                            refine H.blk_hit ?_
                            refine H.blk_normal ?_
                            refine H.then_normal ?_
                            refine H.region ?_
                            refine Ops.quiet (Qt.move rfl) rfl ?_
                            refine Ops.quiet (Qt.add64 rfl rfl (by omega) (by omega)) rfl ?_
                            refine Ops.quiet (Qt.assign rfl) rfl ?_
                            refine Ops.nil ?_
                            refine H.then_normal ?_
                            refine H.round ({ g with out := [] }, i + 1) ⟨⟨Cl.out_inv hgv.inv, hgv.tg, hgv.bd, hgv.rc, Nat.le_trans (show 0 + g.wait.length ≤ g.out.length + g.wait.length by omega) hgv.o, hgv.r⟩, rfl, by show i + 1 ≤ sn + 1; omega⟩ (by simp only []; omega) (by repeat (first | exact trivial | refine ⟨rfl, ?_⟩)) (fun w hw => ?_)
                            have hw2 := pack6 (et := 9) (hw.sub (cs' := client b1 { g with out := [] } :: blk b2 [str g.host, str g.frm, .slice tA tn tc, .slice bA bn bc, .slice wA wn wc, num cd, .slice none 0 0, num st, .slice kA kn kc, bol g.over] 33 :: osl 5 wA wn wc (g.wait.map u8v) :: osl 3 kA kn kc (g.codes.map num) :: cs) (by repeat (first | exact List.Sublist.refl _ | exact List.nil_sublist _ | apply List.Sublist.cons_cons | apply List.Sublist.cons)))
                            exact (refc_mk { g with out := [] } (a := ⟨tA, tn, tc, bA, bn, bc⟩) hsc hw2).perm (.swap _ _ _)
                    · try simp only [decide_eq_true_eq, decide_eq_false_iff_not, beq_iff_eq, beq_eq_false_iff_ne, bne_iff_ne, ne_eq, Bool.not_eq_true', Bool.not_eq_false', bne_eq_false_iff_eq, Bool.not_eq_eq_eq_not, Bool.not_true, Bool.not_false] at h109
                      refine H.skip ?_
                      refine H.then_normal ?_
                      refine H.seq ?_
                      refine H.seq ?_
                      obtain ⟨g, hg⟩ : ∃ g, g = d := ⟨_, rfl⟩
                      have hgv : Pv targets body (tot ((said.map Pk.l).take (i + 1))) g := by rw [hg]; exact hdv
                      rw [← hg]
                      refine H.region ?_
                      refine Ops.quiet (Qt.assign rfl) rfl ?_
                      refine Ops.nil ?_
                      refine H.then_normal ?_
                      refine H.block ?_
                      refine H.perm (.swap _ _ _) ?_
                      refine H.open_refc fun st cd wA wn wc rA rn rc kA kn kc hsc ⟨wl1, wl2, wl3⟩ ⟨ol1, ol2, ol3⟩ ⟨kl1, kl2, kl3⟩ => ?_
                      refine H.fr4 ?_
                      refine H.loop (X := Nat) (fun m => [(0, str host), (1, str frm), (2, .slice tA tn tc), (3, .slice bA bn bc), (4, .slice sA sn sc), (5, .int .u8 lost), (16, ptr b1), (17, ptr b2), (18, num (i : Int)), (19, num m)]) (fun m => client b1 { g with out := g.out.drop m } :: blk b2 [str g.host, str g.frm, .slice tA tn tc, .slice bA bn bc, .slice wA wn wc, num cd, .slice rA rn rc, num st, .slice kA kn kc, bol g.over] 33 :: osl 5 wA wn wc (g.wait.map u8v) :: osl 9 rA rn rc (g.out.map str) :: osl 3 kA kn kc (g.codes.map num) :: cs) (fun m => m ≤ rn) (fun m => rn - m) 0 (Nat.zero_le _) (by repeat (first | exact trivial | refine ⟨rfl, ?_⟩)) (fun w hw => hw) ?_
                      intro m hm
                      refine H.seq ?_
                      refine H.seq ?_
                      refine H.region ?_
                      refine Ops.quiet (Qt.move rfl) rfl ?_
                      refine Ops.quiet (Qt.move rfl) rfl ?_
                      refine Ops.quiet (Qt.nilCheck rfl) rfl ?_
                      refine Ops.quiet (Qt.fieldAddr rfl (tk rfl) rfl) rfl ?_
                      refine Ops.quiet (Qt.load rfl (tk rfl) rfl (by repeat (first | exact List.Mem.head _ | apply List.Mem.tail)) (by rfl)) rfl ?_
                      refine Ops.quiet (Qt.len_sl (ats := #[]) rfl (tk rfl)) rfl ?_
                      refine Ops.quiet (Qt.lss rfl rfl) rfl ?_
                      refine Ops.nil ?_
                      refine H.then_normal ?_
                      refine H.cond rfl (fun h120 => ?_) (fun h120 => ?_)
                      · try simp only [decide_eq_true_eq, decide_eq_false_iff_not, beq_iff_eq, beq_eq_false_iff_ne, bne_iff_ne, ne_eq, Bool.not_eq_true', Bool.not_eq_false', bne_eq_false_iff_eq, Bool.not_eq_eq_eq_not, Bool.not_true, Bool.not_false] at h120
                        have hm' : m < g.out.length := by omega
                        have hlt : (0 < (g.out.drop m).length) := by rw [List.length_drop]; omega
                        have hg0 : (g.out.drop m).getD 0 [] = g.out.getD m [] := by simp [List.getD_eq_getElem?_getD]
                        have hnx := fun fr => spec_Next w0 b1 { g with out := g.out.drop m } fr
                        simp only [hg0, List.drop_drop, decide_eq_true hlt] at hnx
                        refine H.skip ?_
                        refine H.then_normal ?_
                        refine H.seq ?_
                        refine H.block ?_
                        refine H.seq ?_
                        refine H.region ?_
                        refine Ops.quiet (Qt.move rfl) rfl ?_
                        refine Ops.eff (Ef.call (fok fab_all rfl Tryd.func14 rfl) rfl (hnx _)) rfl ?_
                        rintro _ _ ⟨rfl, rfl⟩
                        refine Ops.quiet (Qt.move rfl) rfl ?_
                        refine Ops.quiet (Qt.extract rfl rfl) rfl ?_
                        refine Ops.quiet (Qt.extract rfl rfl) rfl ?_
                        refine Ops.quiet (Qt.assign rfl) rfl ?_
                        refine Ops.quiet (Qt.assign rfl) rfl ?_
                        refine Ops.nil ?_
                        refine H.then_normal ?_
                        refine H.seq ?_
                        refine H.region ?_
                        refine Ops.quiet (Qt.move rfl) rfl ?_
                        refine Ops.quiet (Qt.not rfl) rfl ?_
                        refine Ops.quiet (Qt.move rfl) rfl ?_
                        refine Ops.guard rfl rfl rfl rfl (fun g130 => ?_) (fun g130 => ?_)
                        · have g130' := g130
                          try simp only [decide_eq_true_eq, decide_eq_false_iff_not, beq_iff_eq, beq_eq_false_iff_ne, bne_iff_ne, ne_eq, Bool.not_eq_true', Bool.not_eq_false', bne_eq_false_iff_eq, Bool.not_eq_eq_eq_not, Bool.not_true, Bool.not_false] at g130'
                          refine Ops.quiet (Qt.move rfl) rfl ?_
                          refine Ops.guard_yes rfl rfl rfl rfl g130 ?_
                          refine Ops.quiet (Qt.move rfl) rfl ?_
                          refine Ops.guard_yes rfl rfl rfl rfl g130 ?_
                          refine Ops.quiet (Qt.nilCheck rfl) rfl ?_
                          refine Ops.guard_yes rfl rfl rfl rfl g130 ?_
                          refine Ops.quiet (Qt.fieldAddr rfl (tk rfl) rfl) rfl ?_
                          refine Ops.guard_yes rfl rfl rfl rfl g130 ?_
                          refine Ops.quiet (Qt.load rfl (tk rfl) rfl (by repeat (first | exact List.Mem.head _ | apply List.Mem.tail)) (by rfl)) rfl ?_
                          refine Ops.guard_yes rfl rfl rfl rfl g130 ?_
                          refine Ops.quiet (Qt.move rfl) rfl ?_
                          refine Ops.guard_yes rfl rfl rfl rfl g130 ?_
                          refine Ops.quiet (Qt.indexAddr rfl rfl (tk rfl) (tk rfl) rfl (by repeat (first | assumption | exact Reads.of_head | apply Reads.tail)) (by omega) (by omega)) rfl ?_
                          refine Ops.guard_yes rfl rfl rfl rfl g130 ?_
                          refine Ops.quiet (Qt.load_map ([] : List UInt8) rfl (tk rfl) rfl (by repeat (first | assumption | exact Reads.of_head | apply Reads.tail)) (by omega)) rfl ?_
                          refine Ops.guard_yes rfl rfl rfl rfl g130 ?_
                          refine Ops.quiet (Qt.sne rfl rfl) rfl ?_
                          refine Ops.quiet (Qt.pick_f rfl rfl g130) rfl ?_
                          refine Ops.nil ?_
                          refine H.then_normal ?_
                          refine H.cond rfl (fun h140 => ?_) (fun h140 => ?_)
                          · try simp only [decide_eq_true_eq, decide_eq_false_iff_not, beq_iff_eq, beq_eq_false_iff_ne, bne_iff_ne, ne_eq, Bool.not_eq_true', Bool.not_eq_false', bne_eq_false_iff_eq, Bool.not_eq_eq_eq_not, Bool.not_true, Bool.not_false] at h140
                            exact absurd rfl h140
                          · try simp only [decide_eq_true_eq, decide_eq_false_iff_not, beq_iff_eq, beq_eq_false_iff_ne, bne_iff_ne, ne_eq, Bool.not_eq_true', Bool.not_eq_false', bne_eq_false_iff_eq, Bool.not_eq_eq_eq_not, Bool.not_true, Bool.not_false] at h140
                            refine H.skip ?_
                            refine H.blk_normal ?_
                            refine H.then_normal ?_
                            refine H.region ?_
                            refine Ops.quiet (Qt.move rfl) rfl ?_
                            refine Ops.quiet (Qt.add64 rfl rfl (by omega) (by omega)) rfl ?_
                            refine Ops.quiet (Qt.assign rfl) rfl ?_
                            refine Ops.nil ?_
                            refine H.then_normal ?_
                            refine H.round (m + 1) (by omega) (by omega) (by repeat (first | exact trivial | refine ⟨rfl, ?_⟩)) (fun w hw => hw)
                        · have g130' := g130
                          try simp only [decide_eq_true_eq, decide_eq_false_iff_not, beq_iff_eq, beq_eq_false_iff_ne, bne_iff_ne, ne_eq, Bool.not_eq_true', Bool.not_eq_false', bne_eq_false_iff_eq, Bool.not_eq_eq_eq_not, Bool.not_true, Bool.not_false] at g130'
                          exact Bool.noConfusion g130
                      · try simp only [decide_eq_true_eq, decide_eq_false_iff_not, beq_iff_eq, beq_eq_false_iff_ne, bne_iff_ne, ne_eq, Bool.not_eq_true', Bool.not_eq_false', bne_eq_false_iff_eq, Bool.not_eq_eq_eq_not, Bool.not_true, Bool.not_false] at h120
                        have hgd : g.out.drop m = [] := List.drop_of_length_le (by omega)
                        rw [hgd]
                        have hnx := fun fr => spec_Next w0 b1 { g with out := [] } fr
                        refine H.exit ?_
                        refine H.then_exit ?_
                        refine H.then_exit ?_
                        refine H.blk_hit ?_
                        refine H.then_normal ?_
                        refine H.seq ?_
                        refine H.region ?_
                        refine Ops.quiet (Qt.move rfl) rfl ?_
                        refine Ops.quiet (Qt.nilCheck rfl) rfl ?_
                        refine Ops.quiet (Qt.fieldAddr rfl (tk rfl) rfl) rfl ?_
                        refine Ops.eff (Ef.store rfl rfl (tk rfl) rfl rfl (by repeat (first | exact ones_nil | refine ones_cons rfl ?_)) (by repeat (first | exact Upd.head | apply Upd.tail)) (by rfl)) rfl ?_
                        rintro _ _ rfl
                        refine Ops.nil ?_
                        refine H.then_normal ?_
                        refine H.seq ?_
                        refine H.seq ?_
                        refine H.region ?_
                        refine Ops.quiet (Qt.move rfl) rfl ?_
                        refine Ops.eff (Ef.call (fok fab_all rfl Tryd.func14 rfl) rfl (hnx _)) rfl ?_
                        rintro _ _ ⟨rfl, rfl⟩
                        refine Ops.quiet (Qt.move rfl) rfl ?_
                        refine Ops.quiet (Qt.extract rfl rfl) rfl ?_
                        refine Ops.quiet (Qt.extract rfl rfl) rfl ?_
                        refine Ops.quiet (Qt.assign rfl) rfl ?_
                        refine Ops.quiet (Qt.assign rfl) rfl ?_
                        refine Ops.nil ?_
                        refine H.then_normal ?_
                        refine H.seq ?_
                        refine H.drawn_all 8 mixed (by kernel_rfl) ?_
                        refine Hd.quiet 0 (by kernel_rfl) rfl rfl (by kernel_rfl) rfl (Qt.move rfl) ?_
                        refine Hd.quiet 1 (by kernel_rfl) rfl rfl (by kernel_rfl) rfl (Qt.move rfl) ?_
                        refine Hd.case (d := 150) rfl (fun g150 => ?_) (fun g150 => ?_)
                        · have g150' := g150
                          try simp only [decide_eq_true_eq, decide_eq_false_iff_not, beq_iff_eq, beq_eq_false_iff_ne, bne_iff_ne, ne_eq, Bool.not_eq_true', Bool.not_eq_false', bne_eq_false_iff_eq, Bool.not_eq_eq_eq_not, Bool.not_true, Bool.not_false] at g150'
                          exact Bool.noConfusion g150
                        · have g150' := g150
                          try simp only [decide_eq_true_eq, decide_eq_false_iff_not, beq_iff_eq, beq_eq_false_iff_ne, bne_iff_ne, ne_eq, Bool.not_eq_true', Bool.not_eq_false', bne_eq_false_iff_eq, Bool.not_eq_eq_eq_not, Bool.not_true, Bool.not_false] at g150'
                          refine Hd.guard_yes 2 (by kernel_rfl) rfl rfl (by kernel_rfl) rfl rfl rfl rfl g150 (Qt.move rfl) ?_
                          refine Hd.guard_yes 4 (by kernel_rfl) rfl rfl (by kernel_rfl) rfl rfl rfl rfl g150 (Qt.move rfl) ?_
                          refine Hd.guard_yes 5 (by kernel_rfl) rfl rfl (by kernel_rfl) rfl rfl rfl rfl g150 (Qt.nilCheck rfl) ?_
                          refine Hd.guard_yes 6 (by kernel_rfl) rfl rfl (by kernel_rfl) rfl rfl rfl rfl g150 (Qt.fieldAddr rfl (tk rfl) rfl) ?_
                          refine Hd.guard_yes 7 (by kernel_rfl) rfl rfl (by kernel_rfl) rfl rfl rfl rfl g150 (Qt.load rfl (tk rfl) rfl (by repeat (first | exact List.Mem.head _ | apply List.Mem.tail)) (by rfl)) ?_
                          refine Hd.eff_g 3 (by intro w hw; first | exact hw | exact Own.sub (by repeat (first | exact List.Sublist.refl _ | exact List.nil_sublist _ | apply List.Sublist.cons_cons | apply List.Sublist.cons)) hw) rfl rfl (by kernel_rfl) rfl rfl rfl rfl g150 (Ef.call (fok fab_all rfl Tryd.func15 rfl) rfl (spec_Over w0 b1 { g with out := [] } _)) ?_
                          rintro _ _ ⟨rfl, rfl⟩
                          refine Hd.tail (by intro w hw; first | exact hw | exact Own.sub (by repeat (first | exact List.Sublist.refl _ | exact List.nil_sublist _ | apply List.Sublist.cons_cons | apply List.Sublist.cons)) hw) (by kernel_rfl) rfl ?_
                          refine Ops.guard_yes rfl rfl rfl rfl g150 ?_
                          refine Ops.quiet (Qt.bne rfl rfl (tk rfl)) rfl ?_
                          refine Ops.quiet (Qt.pick_f rfl rfl g150) rfl ?_
                          refine Ops.nil ?_
                          refine H.then_normal ?_
                          refine H.cond_false rfl (by simp) ?_
                          refine H.skip ?_
                          refine H.then_normal ?_
                          refine H.seq ?_
                          have hgc : g.codes.length ≤ 1000000 := by rw [hgv.inv.ok.clen, hgv.tg]; omega
                          refine H.region ?_
                          refine Ops.quiet (Qt.move rfl) rfl ?_
                          refine Ops.eff (Ef.call (fok fab_all rfl Tryd.func16 rfl) rfl (spec_Codes w0 b1 { g with out := [] } _ hgc)) rfl ?_
                          rintro _ _ ⟨A160, rfl, k160, rfl⟩
                          refine Ops.quiet (Qt.assign rfl) rfl ?_
                          refine Ops.nil ?_
                          refine H.then_normal ?_
                          refine H.seq ?_
                          refine H.seq ?_
                          refine H.region ?_
                          refine Ops.quiet (Qt.move rfl) rfl ?_
                          refine Ops.quiet (Qt.len_sl (ats := #[]) rfl (tk rfl)) rfl ?_
                          refine Ops.quiet (Qt.move rfl) rfl ?_
                          refine Ops.quiet (Qt.nilCheck rfl) rfl ?_
                          refine Ops.quiet (Qt.fieldAddr rfl (tk rfl) rfl) rfl ?_
                          refine Ops.quiet (Qt.load rfl (tk rfl) rfl (by repeat (first | exact List.Mem.head _ | apply List.Mem.tail)) (by rfl)) rfl ?_
                          refine Ops.quiet (Qt.len_sl (ats := #[]) rfl (tk rfl)) rfl ?_
                          refine Ops.quiet (Qt.neq rfl rfl) rfl ?_
                          refine Ops.nil ?_
                          refine H.then_normal ?_
                          refine H.cond_false rfl (by simp [kl1]) ?_
                          refine H.skip ?_
                          refine H.then_normal ?_
                          refine H.seq ?_
                          refine H.region ?_
                          refine Ops.quiet (Qt.assign rfl) rfl ?_
                          refine Ops.nil ?_
                          refine H.then_normal ?_
                          refine H.block ?_
                          refine H.loop (X := Nat) (fun m => [(0, str host), (1, str frm), (2, .slice tA tn tc), (3, .slice bA bn bc), (4, .slice sA sn sc), (5, .int .u8 lost), (16, ptr b1), (17, ptr b2), (18, num (i : Int)), (24, .slice A160 g.codes.length g.codes.length), (25, num m)]) (fun m => client b1 { g with out := [] } :: osl 3 A160 g.codes.length k160 (g.codes.map num) :: blk b2 [str g.host, str g.frm, .slice tA tn tc, .slice bA bn bc, .slice wA wn wc, num cd, .slice none 0 0, num st, .slice kA kn kc, bol g.over] 33 :: osl 5 wA wn wc (g.wait.map u8v) :: osl 9 rA rn rc (g.out.map str) :: osl 3 kA kn kc (g.codes.map num) :: cs) (fun m => m ≤ kn) (fun m => kn - m) 0 (Nat.zero_le _) (by repeat (first | exact trivial | refine ⟨rfl, ?_⟩)) (fun w hw => hw) ?_
                          intro q hq5
                          refine H.seq ?_
                          refine H.seq ?_
                          refine H.region ?_
                          refine Ops.quiet (Qt.move rfl) rfl ?_
                          refine Ops.quiet (Qt.move rfl) rfl ?_
                          refine Ops.quiet (Qt.len_sl (ats := #[]) rfl (tk rfl)) rfl ?_
                          refine Ops.quiet (Qt.lss rfl rfl) rfl ?_
                          refine Ops.nil ?_
                          refine H.then_normal ?_
                          refine H.cond rfl (fun h172 => ?_) (fun h172 => ?_)
                          · try simp only [decide_eq_true_eq, decide_eq_false_iff_not, beq_iff_eq, beq_eq_false_iff_ne, bne_iff_ne, ne_eq, Bool.not_eq_true', Bool.not_eq_false', bne_eq_false_iff_eq, Bool.not_eq_eq_eq_not, Bool.not_true, Bool.not_false] at h172
                            have hq6 : q < g.codes.length := by
                              have h9 : (q : Int) < g.codes.length := h172
                              omega
                            have hq7 : (q : Int) < (g.codes.length : Int) := by omega
                            have hq8 : ((q : Int).toNat) < g.codes.length := by omega
                            have hq9 : ((q : Int).toNat) < kn := by omega
                            refine H.skip ?_
                            refine H.then_normal ?_
                            refine H.seq ?_
                            refine H.block ?_
                            refine H.seq ?_
                            refine H.drawn_all 11 mixed (by kernel_rfl) ?_
                            refine Hd.quiet 0 (by kernel_rfl) rfl rfl (by kernel_rfl) rfl (Qt.move rfl) ?_
                            refine Hd.quiet 1 (by kernel_rfl) rfl rfl (by kernel_rfl) rfl (Qt.move rfl) ?_
                            refine Hd.quiet 2 (by kernel_rfl) rfl rfl (by kernel_rfl) rfl (Qt.indexAddr rfl rfl (tk rfl) (tk rfl) rfl (Reads.clip (c := k160) (xs := g.codes.map num) (by repeat (first | assumption | exact Reads.of_head | apply Reads.tail))) (by omega) (by omega)) ?_
                            refine Hd.quiet 3 (by kernel_rfl) rfl rfl (by kernel_rfl) rfl (Qt.load_map (0 : Int) rfl (tk rfl) rfl (Reads.clip (c := k160) (by repeat (first | assumption | exact Reads.of_head | apply Reads.tail))) (by omega)) ?_
                            refine Hd.quiet 4 (by kernel_rfl) rfl rfl (by kernel_rfl) rfl (Qt.move rfl) ?_
                            refine Hd.quiet 5 (by kernel_rfl) rfl rfl (by kernel_rfl) rfl (Qt.nilCheck rfl) ?_
                            refine Hd.quiet 6 (by kernel_rfl) rfl rfl (by kernel_rfl) rfl (Qt.fieldAddr rfl (tk rfl) rfl) ?_
                            refine Hd.quiet 7 (by kernel_rfl) rfl rfl (by kernel_rfl) rfl (Qt.load rfl (tk rfl) rfl (by repeat (first | exact List.Mem.head _ | apply List.Mem.tail)) (by rfl)) ?_
                            refine Hd.quiet 8 (by kernel_rfl) rfl rfl (by kernel_rfl) rfl (Qt.move rfl) ?_
                            refine Hd.quiet 9 (by kernel_rfl) rfl rfl (by kernel_rfl) rfl (Qt.indexAddr rfl rfl (tk rfl) (tk rfl) rfl (by repeat (first | assumption | exact Reads.of_head | apply Reads.tail)) (by omega) (by omega)) ?_
                            refine Hd.quiet 10 (by kernel_rfl) rfl rfl (by kernel_rfl) rfl (Qt.load_map (0 : Int) rfl (tk rfl) rfl (by repeat (first | assumption | exact Reads.of_head | apply Reads.tail)) (by omega)) ?_
                            refine Hd.tail (by intro w hw; first | exact hw | exact Own.sub (by repeat (first | exact List.Sublist.refl _ | exact List.nil_sublist _ | apply List.Sublist.cons_cons | apply List.Sublist.cons)) hw) (by kernel_rfl) rfl ?_
                            refine Ops.quiet (Qt.neq rfl rfl) rfl ?_
                            refine Ops.nil ?_
                            refine H.then_normal ?_
                            refine H.cond_false rfl (by simp) ?_
                            refine H.skip ?_
                            refine H.blk_normal ?_
                            refine H.then_normal ?_
                            refine H.region ?_
                            refine Ops.quiet (Qt.move rfl) rfl ?_
                            refine Ops.quiet (Qt.add64 rfl rfl (by omega) (by omega)) rfl ?_
                            refine Ops.quiet (Qt.assign rfl) rfl ?_
                            refine Ops.nil ?_
                            refine H.then_normal ?_
                            refine H.round (q + 1) (by omega) (by omega) (by repeat (first | exact trivial | refine ⟨rfl, ?_⟩)) (fun w hw => hw)
                          · try simp only [decide_eq_true_eq, decide_eq_false_iff_not, beq_iff_eq, beq_eq_false_iff_ne, bne_iff_ne, ne_eq, Bool.not_eq_true', Bool.not_eq_false', bne_eq_false_iff_eq, Bool.not_eq_eq_eq_not, Bool.not_true, Bool.not_false] at h172
                            refine H.exit ?_
                            refine H.then_exit ?_
                            refine H.then_exit ?_
                            refine H.blk_hit ?_
                            refine H.blk_normal ?_
                            refine H.then_normal ?_
                            refine H.region ?_
                            refine Ops.quiet (Qt.move rfl) rfl ?_
                            refine Ops.quiet (Qt.add64 rfl rfl (by omega) (by omega)) rfl ?_
                            refine Ops.quiet (Qt.assign rfl) rfl ?_
                            refine Ops.nil ?_
                            refine H.then_normal ?_
                            refine H.round ({ g with out := [] }, i + 1) ⟨⟨Cl.out_inv hgv.inv, hgv.tg, hgv.bd, hgv.rc, Nat.le_trans (show 0 + g.wait.length ≤ g.out.length + g.wait.length by omega) hgv.o, hgv.r⟩, rfl, by show i + 1 ≤ sn + 1; omega⟩ (by simp only []; omega) (by repeat (first | exact trivial | refine ⟨rfl, ?_⟩)) (fun w hw => ?_)
                            have hw2 := pack6 (et := 9) (hw.sub (cs' := client b1 { g with out := [] } :: blk b2 [str g.host, str g.frm, .slice tA tn tc, .slice bA bn bc, .slice wA wn wc, num cd, .slice none 0 0, num st, .slice kA kn kc, bol g.over] 33 :: osl 5 wA wn wc (g.wait.map u8v) :: osl 3 kA kn kc (g.codes.map num) :: cs) (by repeat (first | exact List.Sublist.refl _ | exact List.nil_sublist _ | apply List.Sublist.cons_cons | apply List.Sublist.cons)))
                            exact (refc_mk { g with out := [] } (a := ⟨tA, tn, tc, bA, bn, bc⟩) hsc hw2).perm (.swap _ _ _)
                  · try simp only [decide_eq_true_eq, decide_eq_false_iff_not, beq_iff_eq, beq_eq_false_iff_ne, bne_iff_ne, ne_eq, Bool.not_eq_true', Bool.not_eq_false', bne_eq_false_iff_eq, Bool.not_eq_eq_eq_not, Bool.not_true, Bool.not_false] at h93
                    refine H.skip ?_
                    refine H.then_normal ?_
                    refine H.seq ?_
                    refine H.seq ?_
                    obtain ⟨d, hd⟩ : ∃ d, d = c := ⟨_, rfl⟩
                    have hdv : Pv targets body (tot ((said.map Pk.l).take (i + 1))) d := by
                      have e : (said.map Pk.l).take (i + 1) = (said.map Pk.l).take i := by
                        rw [List.take_of_length_le (by rw [List.length_map]; omega), List.take_of_length_le (by rw [List.length_map]; omega)]
                      rw [hd, e]; exact hpv
                    rw [← hd]
                    refine H.region ?_
                    refine Ops.quiet (Qt.move rfl) rfl ?_
                    refine Ops.quiet (Qt.move rfl) rfl ?_
                    refine Ops.quiet (Qt.conv_int rfl (tk rfl) (tk rfl)) rfl ?_
                    refine Ops.quiet (Qt.eql rfl rfl) rfl ?_
                    refine Ops.nil ?_
                    refine H.then_normal ?_
                    refine H.cond rfl (fun h109 => ?_) (fun h109 => ?_)
                    · try simp only [decide_eq_true_eq, decide_eq_false_iff_not, beq_iff_eq, beq_eq_false_iff_ne, bne_iff_ne, ne_eq, Bool.not_eq_true', Bool.not_eq_false', bne_eq_false_iff_eq, Bool.not_eq_eq_eq_not, Bool.not_true, Bool.not_false] at h109
                      refine H.seq ?_
                      refine H.region ?_
                      refine Ops.quiet (Qt.move rfl) rfl ?_
                      refine Ops.eff (Ef.call (fok fab_all rfl Tryd.func12 rfl) rfl (spec_lost w0 b1 d _)) rfl ?_
                      rintro _ _ ⟨rfl, rfl⟩
                      refine Ops.nil ?_
                      refine H.then_normal ?_
                      refine H.region ?_
                      refine Ops.quiet (Qt.move rfl) rfl ?_
                      refine Ops.eff (Ef.call (fok fab_all rfl Tryd.func13 rfl) rfl (Spec.conv (fun w hw => hw.perm (.swap _ _ _)) (spec_rlost w0 b2 ⟨tA, tn, tc, bA, bn, bc⟩ d _))) rfl ?_
                      rintro _ _ ⟨rfl, rfl⟩
                      refine Ops.nil ?_
                      refine H.then_normal ?_
                      refine H.seq ?_
                      refine H.seq ?_
                      obtain ⟨g, hg⟩ : ∃ g, g = d.lost := ⟨_, rfl⟩
                      have hgv : Pv targets body (tot ((said.map Pk.l).take (i + 1))) g := by rw [hg]; exact lost_pv hdv
                      rw [← hg]
                      refine H.perm (.swap _ _ _) ?_
                      refine H.region ?_
                      refine Ops.quiet (Qt.assign rfl) rfl ?_
                      refine Ops.nil ?_
                      refine H.then_normal ?_
                      refine H.block ?_
                      refine H.perm (.swap _ _ _) ?_
                      refine H.open_refc fun st cd wA wn wc rA rn rc kA kn kc hsc ⟨wl1, wl2, wl3⟩ ⟨ol1, ol2, ol3⟩ ⟨kl1, kl2, kl3⟩ => ?_
                      refine H.fr4 ?_
                      refine H.loop (X := Nat) (fun m => [(0, str host), (1, str frm), (2, .slice tA tn tc), (3, .slice bA bn bc), (4, .slice sA sn sc), (5, .int .u8 lost), (16, ptr b1), (17, ptr b2), (18, num (i : Int)), (19, num m)]) (fun m => client b1 { g with out := g.out.drop m } :: blk b2 [str g.host, str g.frm, .slice tA tn tc, .slice bA bn bc, .slice wA wn wc, num cd, .slice rA rn rc, num st, .slice kA kn kc, bol g.over] 33 :: osl 5 wA wn wc (g.wait.map u8v) :: osl 9 rA rn rc (g.out.map str) :: osl 3 kA kn kc (g.codes.map num) :: cs) (fun m => m ≤ rn) (fun m => rn - m) 0 (Nat.zero_le _) (by repeat (first | exact trivial | refine ⟨rfl, ?_⟩)) (fun w hw => hw) ?_
                      intro m hm
                      refine H.seq ?_
                      refine H.seq ?_
                      refine H.region ?_
                      refine Ops.quiet (Qt.move rfl) rfl ?_
                      refine Ops.quiet (Qt.move rfl) rfl ?_
                      refine Ops.quiet (Qt.nilCheck rfl) rfl ?_
                      refine Ops.quiet (Qt.fieldAddr rfl (tk rfl) rfl) rfl ?_
                      refine Ops.quiet (Qt.load rfl (tk rfl) rfl (by repeat (first | exact List.Mem.head _ | apply List.Mem.tail)) (by rfl)) rfl ?_
                      refine Ops.quiet (Qt.len_sl (ats := #[]) rfl (tk rfl)) rfl ?_
                      refine Ops.quiet (Qt.lss rfl rfl) rfl ?_
                      refine Ops.nil ?_
                      refine H.then_normal ?_
                      refine H.cond rfl (fun h120 => ?_) (fun h120 => ?_)
                      · try simp only [decide_eq_true_eq, decide_eq_false_iff_not, beq_iff_eq, beq_eq_false_iff_ne, bne_iff_ne, ne_eq, Bool.not_eq_true', Bool.not_eq_false', bne_eq_false_iff_eq, Bool.not_eq_eq_eq_not, Bool.not_true, Bool.not_false] at h120
                        have hm' : m < g.out.length := by omega
                        have hlt : (0 < (g.out.drop m).length) := by rw [List.length_drop]; omega
                        have hg0 : (g.out.drop m).getD 0 [] = g.out.getD m [] := by simp [List.getD_eq_getElem?_getD]
                        have hnx := fun fr => spec_Next w0 b1 { g with out := g.out.drop m } fr
                        simp only [hg0, List.drop_drop, decide_eq_true hlt] at hnx
                        refine H.skip ?_
                        refine H.then_normal ?_
                        refine H.seq ?_
                        refine H.block ?_
                        refine H.seq ?_
                        refine H.region ?_
                        refine Ops.quiet (Qt.move rfl) rfl ?_
                        refine Ops.eff (Ef.call (fok fab_all rfl Tryd.func14 rfl) rfl (hnx _)) rfl ?_
                        rintro _ _ ⟨rfl, rfl⟩
                        refine Ops.quiet (Qt.move rfl) rfl ?_
                        refine Ops.quiet (Qt.extract rfl rfl) rfl ?_
                        refine Ops.quiet (Qt.extract rfl rfl) rfl ?_
                        refine Ops.quiet (Qt.assign rfl) rfl ?_
                        refine Ops.quiet (Qt.assign rfl) rfl ?_
                        refine Ops.nil ?_
                        refine H.then_normal ?_
                        refine H.seq ?_
                        refine H.region ?_
                        refine Ops.quiet (Qt.move rfl) rfl ?_
                        refine Ops.quiet (Qt.not rfl) rfl ?_
                        refine Ops.quiet (Qt.move rfl) rfl ?_
                        refine Ops.guard rfl rfl rfl rfl (fun g130 => ?_) (fun g130 => ?_)
                        · have g130' := g130
                          try simp only [decide_eq_true_eq, decide_eq_false_iff_not, beq_iff_eq, beq_eq_false_iff_ne, bne_iff_ne, ne_eq, Bool.not_eq_true', Bool.not_eq_false', bne_eq_false_iff_eq, Bool.not_eq_eq_eq_not, Bool.not_true, Bool.not_false] at g130'
                          refine Ops.quiet (Qt.move rfl) rfl ?_
                          refine Ops.guard_yes rfl rfl rfl rfl g130 ?_
                          refine Ops.quiet (Qt.move rfl) rfl ?_
                          refine Ops.guard_yes rfl rfl rfl rfl g130 ?_
                          refine Ops.quiet (Qt.nilCheck rfl) rfl ?_
                          refine Ops.guard_yes rfl rfl rfl rfl g130 ?_
                          refine Ops.quiet (Qt.fieldAddr rfl (tk rfl) rfl) rfl ?_
                          refine Ops.guard_yes rfl rfl rfl rfl g130 ?_
                          refine Ops.quiet (Qt.load rfl (tk rfl) rfl (by repeat (first | exact List.Mem.head _ | apply List.Mem.tail)) (by rfl)) rfl ?_
                          refine Ops.guard_yes rfl rfl rfl rfl g130 ?_
                          refine Ops.quiet (Qt.move rfl) rfl ?_
                          refine Ops.guard_yes rfl rfl rfl rfl g130 ?_
                          refine Ops.quiet (Qt.indexAddr rfl rfl (tk rfl) (tk rfl) rfl (by repeat (first | assumption | exact Reads.of_head | apply Reads.tail)) (by omega) (by omega)) rfl ?_
                          refine Ops.guard_yes rfl rfl rfl rfl g130 ?_
                          refine Ops.quiet (Qt.load_map ([] : List UInt8) rfl (tk rfl) rfl (by repeat (first | assumption | exact Reads.of_head | apply Reads.tail)) (by omega)) rfl ?_
                          refine Ops.guard_yes rfl rfl rfl rfl g130 ?_
                          refine Ops.quiet (Qt.sne rfl rfl) rfl ?_
                          refine Ops.quiet (Qt.pick_f rfl rfl g130) rfl ?_
                          refine Ops.nil ?_
                          refine H.then_normal ?_
                          refine H.cond rfl (fun h140 => ?_) (fun h140 => ?_)
                          · try simp only [decide_eq_true_eq, decide_eq_false_iff_not, beq_iff_eq, beq_eq_false_iff_ne, bne_iff_ne, ne_eq, Bool.not_eq_true', Bool.not_eq_false', bne_eq_false_iff_eq, Bool.not_eq_eq_eq_not, Bool.not_true, Bool.not_false] at h140
                            exact absurd rfl h140
                          · try simp only [decide_eq_true_eq, decide_eq_false_iff_not, beq_iff_eq, beq_eq_false_iff_ne, bne_iff_ne, ne_eq, Bool.not_eq_true', Bool.not_eq_false', bne_eq_false_iff_eq, Bool.not_eq_eq_eq_not, Bool.not_true, Bool.not_false] at h140
                            refine H.skip ?_
                            refine H.blk_normal ?_
                            refine H.then_normal ?_
                            refine H.region ?_
                            refine Ops.quiet (Qt.move rfl) rfl ?_
                            refine Ops.quiet (Qt.add64 rfl rfl (by omega) (by omega)) rfl ?_
                            refine Ops.quiet (Qt.assign rfl) rfl ?_
                            refine Ops.nil ?_
                            refine H.then_normal ?_
                            refine H.round (m + 1) (by omega) (by omega) (by repeat (first | exact trivial | refine ⟨rfl, ?_⟩)) (fun w hw => hw)
                        · have g130' := g130
                          try simp only [decide_eq_true_eq, decide_eq_false_iff_not, beq_iff_eq, beq_eq_false_iff_ne, bne_iff_ne, ne_eq, Bool.not_eq_true', Bool.not_eq_false', bne_eq_false_iff_eq, Bool.not_eq_eq_eq_not, Bool.not_true, Bool.not_false] at g130'
                          exact Bool.noConfusion g130
                      · try simp only [decide_eq_true_eq, decide_eq_false_iff_not, beq_iff_eq, beq_eq_false_iff_ne, bne_iff_ne, ne_eq, Bool.not_eq_true', Bool.not_eq_false', bne_eq_false_iff_eq, Bool.not_eq_eq_eq_not, Bool.not_true, Bool.not_false] at h120
                        have hgd : g.out.drop m = [] := List.drop_of_length_le (by omega)
                        rw [hgd]
                        have hnx := fun fr => spec_Next w0 b1 { g with out := [] } fr
                        refine H.exit ?_
                        refine H.then_exit ?_
                        refine H.then_exit ?_
                        refine H.blk_hit ?_
                        refine H.then_normal ?_
                        refine H.seq ?_
                        refine H.region ?_
                        refine Ops.quiet (Qt.move rfl) rfl ?_
                        refine Ops.quiet (Qt.nilCheck rfl) rfl ?_
                        refine Ops.quiet (Qt.fieldAddr rfl (tk rfl) rfl) rfl ?_
                        refine Ops.eff (Ef.store rfl rfl (tk rfl) rfl rfl (by repeat (first | exact ones_nil | refine ones_cons rfl ?_)) (by repeat (first | exact Upd.head | apply Upd.tail)) (by rfl)) rfl ?_
                        rintro _ _ rfl
                        refine Ops.nil ?_
                        refine H.then_normal ?_
                        refine H.seq ?_
                        refine H.seq ?_
                        refine H.region ?_
                        refine Ops.quiet (Qt.move rfl) rfl ?_
                        refine Ops.eff (Ef.call (fok fab_all rfl Tryd.func14 rfl) rfl (hnx _)) rfl ?_
                        rintro _ _ ⟨rfl, rfl⟩
                        refine Ops.quiet (Qt.move rfl) rfl ?_
                        refine Ops.quiet (Qt.extract rfl rfl) rfl ?_
                        refine Ops.quiet (Qt.extract rfl rfl) rfl ?_
                        refine Ops.quiet (Qt.assign rfl) rfl ?_
                        refine Ops.quiet (Qt.assign rfl) rfl ?_
                        refine Ops.nil ?_
                        refine H.then_normal ?_
                        refine H.seq ?_
                        refine H.drawn_all 8 mixed (by kernel_rfl) ?_
                        refine Hd.quiet 0 (by kernel_rfl) rfl rfl (by kernel_rfl) rfl (Qt.move rfl) ?_
                        refine Hd.quiet 1 (by kernel_rfl) rfl rfl (by kernel_rfl) rfl (Qt.move rfl) ?_
                        refine Hd.case (d := 150) rfl (fun g150 => ?_) (fun g150 => ?_)
                        · have g150' := g150
                          try simp only [decide_eq_true_eq, decide_eq_false_iff_not, beq_iff_eq, beq_eq_false_iff_ne, bne_iff_ne, ne_eq, Bool.not_eq_true', Bool.not_eq_false', bne_eq_false_iff_eq, Bool.not_eq_eq_eq_not, Bool.not_true, Bool.not_false] at g150'
                          exact Bool.noConfusion g150
                        · have g150' := g150
                          try simp only [decide_eq_true_eq, decide_eq_false_iff_not, beq_iff_eq, beq_eq_false_iff_ne, bne_iff_ne, ne_eq, Bool.not_eq_true', Bool.not_eq_false', bne_eq_false_iff_eq, Bool.not_eq_eq_eq_not, Bool.not_true, Bool.not_false] at g150'
                          refine Hd.guard_yes 2 (by kernel_rfl) rfl rfl (by kernel_rfl) rfl rfl rfl rfl g150 (Qt.move rfl) ?_
                          refine Hd.guard_yes 4 (by kernel_rfl) rfl rfl (by kernel_rfl) rfl rfl rfl rfl g150 (Qt.move rfl) ?_
                          refine Hd.guard_yes 5 (by kernel_rfl) rfl rfl (by kernel_rfl) rfl rfl rfl rfl g150 (Qt.nilCheck rfl) ?_
                          refine Hd.guard_yes 6 (by kernel_rfl) rfl rfl (by kernel_rfl) rfl rfl rfl rfl g150 (Qt.fieldAddr rfl (tk rfl) rfl) ?_
                          refine Hd.guard_yes 7 (by kernel_rfl) rfl rfl (by kernel_rfl) rfl rfl rfl rfl g150 (Qt.load rfl (tk rfl) rfl (by repeat (first | exact List.Mem.head _ | apply List.Mem.tail)) (by rfl)) ?_
                          refine Hd.eff_g 3 (by intro w hw; first | exact hw | exact Own.sub (by repeat (first | exact List.Sublist.refl _ | exact List.nil_sublist _ | apply List.Sublist.cons_cons | apply List.Sublist.cons)) hw) rfl rfl (by kernel_rfl) rfl rfl rfl rfl g150 (Ef.call (fok fab_all rfl Tryd.func15 rfl) rfl (spec_Over w0 b1 { g with out := [] } _)) ?_
                          rintro _ _ ⟨rfl, rfl⟩
                          refine Hd.tail (by intro w hw; first | exact hw | exact Own.sub (by repeat (first | exact List.Sublist.refl _ | exact List.nil_sublist _ | apply List.Sublist.cons_cons | apply List.Sublist.cons)) hw) (by kernel_rfl) rfl ?_
                          refine Ops.guard_yes rfl rfl rfl rfl g150 ?_
                          refine Ops.quiet (Qt.bne rfl rfl (tk rfl)) rfl ?_
                          refine Ops.quiet (Qt.pick_f rfl rfl g150) rfl ?_
                          refine Ops.nil ?_
                          refine H.then_normal ?_
                          refine H.cond_false rfl (by simp) ?_
                          refine H.skip ?_
                          refine H.then_normal ?_
                          refine H.seq ?_
                          have hgc : g.codes.length ≤ 1000000 := by rw [hgv.inv.ok.clen, hgv.tg]; omega
                          refine H.region ?_
                          refine Ops.quiet (Qt.move rfl) rfl ?_
                          refine Ops.eff (Ef.call (fok fab_all rfl Tryd.func16 rfl) rfl (spec_Codes w0 b1 { g with out := [] } _ hgc)) rfl ?_
                          rintro _ _ ⟨A160, rfl, k160, rfl⟩
                          refine Ops.quiet (Qt.assign rfl) rfl ?_
                          refine Ops.nil ?_
                          refine H.then_normal ?_
                          refine H.seq ?_
                          refine H.seq ?_
                          refine H.region ?_
                          refine Ops.quiet (Qt.move rfl) rfl ?_
                          refine Ops.quiet (Qt.len_sl (ats := #[]) rfl (tk rfl)) rfl ?_
                          refine Ops.quiet (Qt.move rfl) rfl ?_
                          refine Ops.quiet (Qt.nilCheck rfl) rfl ?_
                          refine Ops.quiet (Qt.fieldAddr rfl (tk rfl) rfl) rfl ?_
                          refine Ops.quiet (Qt.load rfl (tk rfl) rfl (by repeat (first | exact List.Mem.head _ | apply List.Mem.tail)) (by rfl)) rfl ?_
                          refine Ops.quiet (Qt.len_sl (ats := #[]) rfl (tk rfl)) rfl ?_
                          refine Ops.quiet (Qt.neq rfl rfl) rfl ?_
                          refine Ops.nil ?_
                          refine H.then_normal ?_
                          refine H.cond_false rfl (by simp [kl1]) ?_
                          refine H.skip ?_
                          refine H.then_normal ?_
                          refine H.seq ?_
                          refine H.region ?_
                          refine Ops.quiet (Qt.assign rfl) rfl ?_
                          refine Ops.nil ?_
                          refine H.then_normal ?_
                          refine H.block ?_
                          refine H.loop (X := Nat) (fun m => [(0, str host), (1, str frm), (2, .slice tA tn tc), (3, .slice bA bn bc), (4, .slice sA sn sc), (5, .int .u8 lost), (16, ptr b1), (17, ptr b2), (18, num (i : Int)), (24, .slice A160 g.codes.length g.codes.length), (25, num m)]) (fun m => client b1 { g with out := [] } :: osl 3 A160 g.codes.length k160 (g.codes.map num) :: blk b2 [str g.host, str g.frm, .slice tA tn tc, .slice bA bn bc, .slice wA wn wc, num cd, .slice none 0 0, num st, .slice kA kn kc, bol g.over] 33 :: osl 5 wA wn wc (g.wait.map u8v) :: osl 9 rA rn rc (g.out.map str) :: osl 3 kA kn kc (g.codes.map num) :: cs) (fun m => m ≤ kn) (fun m => kn - m) 0 (Nat.zero_le _) (by repeat (first | exact trivial | refine ⟨rfl, ?_⟩)) (fun w hw => hw) ?_
                          intro q hq5
                          refine H.seq ?_
                          refine H.seq ?_
                          refine H.region ?_
                          refine Ops.quiet (Qt.move rfl) rfl ?_
                          refine Ops.quiet (Qt.move rfl) rfl ?_
                          refine Ops.quiet (Qt.len_sl (ats := #[]) rfl (tk rfl)) rfl ?_
                          refine Ops.quiet (Qt.lss rfl rfl) rfl ?_
                          refine Ops.nil ?_
                          refine H.then_normal ?_
                          refine H.cond rfl (fun h172 => ?_) (fun h172 => ?_)
                          · try simp only [decide_eq_true_eq, decide_eq_false_iff_not, beq_iff_eq, beq_eq_false_iff_ne, bne_iff_ne, ne_eq, Bool.not_eq_true', Bool.not_eq_false', bne_eq_false_iff_eq, Bool.not_eq_eq_eq_not, Bool.not_true, Bool.not_false] at h172
                            have hq6 : q < g.codes.length := by
                              have h9 : (q : Int) < g.codes.length := h172
                              omega
                            have hq7 : (q : Int) < (g.codes.length : Int) := by omega
                            have hq8 : ((q : Int).toNat) < g.codes.length := by omega
                            have hq9 : ((q : Int).toNat) < kn := by omega
                            refine H.skip ?_
                            refine H.then_normal ?_
                            refine H.seq ?_
                            refine H.block ?_
                            refine H.seq ?_
                            refine H.drawn_all 11 mixed (by kernel_rfl) ?_
                            refine Hd.quiet 0 (by kernel_rfl) rfl rfl (by kernel_rfl) rfl (Qt.move rfl) ?_
                            refine Hd.quiet 1 (by kernel_rfl) rfl rfl (by kernel_rfl) rfl (Qt.move rfl) ?_
                            refine Hd.quiet 2 (by kernel_rfl) rfl rfl (by kernel_rfl) rfl (Qt.indexAddr rfl rfl (tk rfl) (tk rfl) rfl (Reads.clip (c := k160) (xs := g.codes.map num) (by repeat (first | assumption | exact Reads.of_head | apply Reads.tail))) (by omega) (by omega)) ?_
                            refine Hd.quiet 3 (by kernel_rfl) rfl rfl (by kernel_rfl) rfl (Qt.load_map (0 : Int) rfl (tk rfl) rfl (Reads.clip (c := k160) (by repeat (first | assumption | exact Reads.of_head | apply Reads.tail))) (by omega)) ?_
                            refine Hd.quiet 4 (by kernel_rfl) rfl rfl (by kernel_rfl) rfl (Qt.move rfl) ?_
                            refine Hd.quiet 5 (by kernel_rfl) rfl rfl (by kernel_rfl) rfl (Qt.nilCheck rfl) ?_
                            refine Hd.quiet 6 (by kernel_rfl) rfl rfl (by kernel_rfl) rfl (Qt.fieldAddr rfl (tk rfl) rfl) ?_
                            refine Hd.quiet 7 (by kernel_rfl) rfl rfl (by kernel_rfl) rfl (Qt.load rfl (tk rfl) rfl (by repeat (first | exact List.Mem.head _ | apply List.Mem.tail)) (by rfl)) ?_
                            refine Hd.quiet 8 (by kernel_rfl) rfl rfl (by kernel_rfl) rfl (Qt.move rfl) ?_
                            refine Hd.quiet 9 (by kernel_rfl) rfl rfl (by kernel_rfl) rfl (Qt.indexAddr rfl rfl (tk rfl) (tk rfl) rfl (by repeat (first | assumption | exact Reads.of_head | apply Reads.tail)) (by omega) (by omega)) ?_
                            refine Hd.quiet 10 (by kernel_rfl) rfl rfl (by kernel_rfl) rfl (Qt.load_map (0 : Int) rfl (tk rfl) rfl (by repeat (first | assumption | exact Reads.of_head | apply Reads.tail)) (by omega)) ?_
                            refine Hd.tail (by intro w hw; first | exact hw | exact Own.sub (by repeat (first | exact List.Sublist.refl _ | exact List.nil_sublist _ | apply List.Sublist.cons_cons | apply List.Sublist.cons)) hw) (by kernel_rfl) rfl ?_
                            refine Ops.quiet (Qt.neq rfl rfl) rfl ?_
                            refine Ops.nil ?_
                            refine H.then_normal ?_
                            refine H.cond_false rfl (by simp) ?_
                            refine H.skip ?_
                            refine H.blk_normal ?_
                            refine H.then_normal ?_
                            refine H.region ?_
                            refine Ops.quiet (Qt.move rfl) rfl ?_
                            refine Ops.quiet (Qt.add64 rfl rfl (by omega) (by omega)) rfl ?_
                            refine Ops.quiet (Qt.assign rfl) rfl ?_
                            refine Ops.nil ?_
                            refine H.then_normal ?_
                            refine H.round (q + 1) (by omega) (by omega) (by repeat (first | exact trivial | refine ⟨rfl, ?_⟩)) (fun w hw => hw)
                          · try simp only [decide_eq_true_eq, decide_eq_false_iff_not, beq_iff_eq, beq_eq_false_iff_ne, bne_iff_ne, ne_eq, Bool.not_eq_true', Bool.not_eq_false', bne_eq_false_iff_eq, Bool.not_eq_eq_eq_not, Bool.not_true, Bool.not_false] at h172
                            refine H.exit ?_
                            refine H.then_exit ?_
                            refine H.then_exit ?_
                            refine H.blk_hit ?_
                            refine H.blk_normal ?_
                            refine H.then_normal ?_
                            refine H.region ?_
                            refine Ops.quiet (Qt.move rfl) rfl ?_
                            refine Ops.quiet (Qt.add64 rfl rfl (by omega) (by omega)) rfl ?_
                            refine Ops.quiet (Qt.assign rfl) rfl ?_
                            refine Ops.nil ?_
                            refine H.then_normal ?_
                            refine H.round ({ g with out := [] }, i + 1) ⟨⟨Cl.out_inv hgv.inv, hgv.tg, hgv.bd, hgv.rc, Nat.le_trans (show 0 + g.wait.length ≤ g.out.length + g.wait.length by omega) hgv.o, hgv.r⟩, rfl, by show i + 1 ≤ sn + 1; omega⟩ (by simp only []; omega) (by repeat (first | exact trivial | refine ⟨rfl, ?_⟩)) (fun w hw => ?_)
                            have hw2 := pack6 (et := 9) (hw.sub (cs' := client b1 { g with out := [] } :: blk b2 [str g.host, str g.frm, .slice tA tn tc, .slice bA bn bc, .slice wA wn wc, num cd, .slice none 0 0, num st, .slice kA kn kc, bol g.over] 33 :: osl 5 wA wn wc (g.wait.map u8v) :: osl 3 kA kn kc (g.codes.map num) :: cs) (by repeat (first | exact List.Sublist.refl _ | exact List.nil_sublist _ | apply List.Sublist.cons_cons | apply List.Sublist.cons)))
                            exact (refc_mk { g with out := [] } (a := ⟨tA, tn, tc, bA, bn, bc⟩) hsc hw2).perm (.swap _ _ _)
                    · try simp only [decide_eq_true_eq, decide_eq_false_iff_not, beq_iff_eq, beq_eq_false_iff_ne, bne_iff_ne, ne_eq, Bool.not_eq_true', Bool.not_eq_false', bne_eq_false_iff_eq, Bool.not_eq_eq_eq_not, Bool.not_true, Bool.not_false] at h109
                      refine H.skip ?_
                      refine H.then_normal ?_
                      refine H.seq ?_
                      refine H.seq ?_
                      obtain ⟨g, hg⟩ : ∃ g, g = d := ⟨_, rfl⟩
                      have hgv : Pv targets body (tot ((said.map Pk.l).take (i + 1))) g := by rw [hg]; exact hdv
                      rw [← hg]
                      refine H.region ?_
                      refine Ops.quiet (Qt.assign rfl) rfl ?_
                      refine Ops.nil ?_
                      refine H.then_normal ?_
                      refine H.block ?_
                      refine H.perm (.swap _ _ _) ?_
                      refine H.open_refc fun st cd wA wn wc rA rn rc kA kn kc hsc ⟨wl1, wl2, wl3⟩ ⟨ol1, ol2, ol3⟩ ⟨kl1, kl2, kl3⟩ => ?_
                      refine H.fr4 ?_
                      refine H.loop (X := Nat) (fun m => [(0, str host), (1, str frm), (2, .slice tA tn tc), (3, .slice bA bn bc), (4, .slice sA sn sc), (5, .int .u8 lost), (16, ptr b1), (17, ptr b2), (18, num (i : Int)), (19, num m)]) (fun m => client b1 { g with out := g.out.drop m } :: blk b2 [str g.host, str g.frm, .slice tA tn tc, .slice bA bn bc, .slice wA wn wc, num cd, .slice rA rn rc, num st, .slice kA kn kc, bol g.over] 33 :: osl 5 wA wn wc (g.wait.map u8v) :: osl 9 rA rn rc (g.out.map str) :: osl 3 kA kn kc (g.codes.map num) :: cs) (fun m => m ≤ rn) (fun m => rn - m) 0 (Nat.zero_le _) (by repeat (first | exact trivial | refine ⟨rfl, ?_⟩)) (fun w hw => hw) ?_
                      intro m hm
                      refine H.seq ?_
                      refine H.seq ?_
                      refine H.region ?_
                      refine Ops.quiet (Qt.move rfl) rfl ?_
                      refine Ops.quiet (Qt.move rfl) rfl ?_
                      refine Ops.quiet (Qt.nilCheck rfl) rfl ?_
                      refine Ops.quiet (Qt.fieldAddr rfl (tk rfl) rfl) rfl ?_
                      refine Ops.quiet (Qt.load rfl (tk rfl) rfl (by repeat (first | exact List.Mem.head _ | apply List.Mem.tail)) (by rfl)) rfl ?_
                      refine Ops.quiet (Qt.len_sl (ats := #[]) rfl (tk rfl)) rfl ?_
                      refine Ops.quiet (Qt.lss rfl rfl) rfl ?_
                      refine Ops.nil ?_
                      refine H.then_normal ?_
                      refine H.cond rfl (fun h120 => ?_) (fun h120 => ?_)
                      · try simp only [decide_eq_true_eq, decide_eq_false_iff_not, beq_iff_eq, beq_eq_false_iff_ne, bne_iff_ne, ne_eq, Bool.not_eq_true', Bool.not_eq_false', bne_eq_false_iff_eq, Bool.not_eq_eq_eq_not, Bool.not_true, Bool.not_false] at h120
                        have hm' : m < g.out.length := by omega
                        have hlt : (0 < (g.out.drop m).length) := by rw [List.length_drop]; omega
                        have hg0 : (g.out.drop m).getD 0 [] = g.out.getD m [] := by simp [List.getD_eq_getElem?_getD]
                        have hnx := fun fr => spec_Next w0 b1 { g with out := g.out.drop m } fr
                        simp only [hg0, List.drop_drop, decide_eq_true hlt] at hnx
                        refine H.skip ?_
                        refine H.then_normal ?_
                        refine H.seq ?_
                        refine H.block ?_
                        refine H.seq ?_
                        refine H.region ?_
                        refine Ops.quiet (Qt.move rfl) rfl ?_
                        refine Ops.eff (Ef.call (fok fab_all rfl Tryd.func14 rfl) rfl (hnx _)) rfl ?_
                        rintro _ _ ⟨rfl, rfl⟩
                        refine Ops.quiet (Qt.move rfl) rfl ?_
                        refine Ops.quiet (Qt.extract rfl rfl) rfl ?_
                        refine Ops.quiet (Qt.extract rfl rfl) rfl ?_
                        refine Ops.quiet (Qt.assign rfl) rfl ?_
                        refine Ops.quiet (Qt.assign rfl) rfl ?_
                        refine Ops.nil ?_
                        refine H.then_normal ?_
                        refine H.seq ?_
                        refine H.region ?_
                        refine Ops.quiet (Qt.move rfl) rfl ?_
                        refine Ops.quiet (Qt.not rfl) rfl ?_
                        refine Ops.quiet (Qt.move rfl) rfl ?_
                        refine Ops.guard rfl rfl rfl rfl (fun g130 => ?_) (fun g130 => ?_)
                        · have g130' := g130
                          try simp only [decide_eq_true_eq, decide_eq_false_iff_not, beq_iff_eq, beq_eq_false_iff_ne, bne_iff_ne, ne_eq, Bool.not_eq_true', Bool.not_eq_false', bne_eq_false_iff_eq, Bool.not_eq_eq_eq_not, Bool.not_true, Bool.not_false] at g130'
                          refine Ops.quiet (Qt.move rfl) rfl ?_
                          refine Ops.guard_yes rfl rfl rfl rfl g130 ?_
                          refine Ops.quiet (Qt.move rfl) rfl ?_
                          refine Ops.guard_yes rfl rfl rfl rfl g130 ?_
                          refine Ops.quiet (Qt.nilCheck rfl) rfl ?_
                          refine Ops.guard_yes rfl rfl rfl rfl g130 ?_
                          refine Ops.quiet (Qt.fieldAddr rfl (tk rfl) rfl) rfl ?_
                          refine Ops.guard_yes rfl rfl rfl rfl g130 ?_
                          refine Ops.quiet (Qt.load rfl (tk rfl) rfl (by repeat (first | exact List.Mem.head _ | apply List.Mem.tail)) (by rfl)) rfl ?_
                          refine Ops.guard_yes rfl rfl rfl rfl g130 ?_
                          refine Ops.quiet (Qt.move rfl) rfl ?_
                          refine Ops.guard_yes rfl rfl rfl rfl g130 ?_
                          refine Ops.quiet (Qt.indexAddr rfl rfl (tk rfl) (tk rfl) rfl (by repeat (first | assumption | exact Reads.of_head | apply Reads.tail)) (by omega) (by omega)) rfl ?_
                          refine Ops.guard_yes rfl rfl rfl rfl g130 ?_
                          refine Ops.quiet (Qt.load_map ([] : List UInt8) rfl (tk rfl) rfl (by repeat (first | assumption | exact Reads.of_head | apply Reads.tail)) (by omega)) rfl ?_
                          refine Ops.guard_yes rfl rfl rfl rfl g130 ?_
                          refine Ops.quiet (Qt.sne rfl rfl) rfl ?_
                          refine Ops.quiet (Qt.pick_f rfl rfl g130) rfl ?_
                          refine Ops.nil ?_
                          refine H.then_normal ?_
                          refine H.cond rfl (fun h140 => ?_) (fun h140 => ?_)
                          · try simp only [decide_eq_true_eq, decide_eq_false_iff_not, beq_iff_eq, beq_eq_false_iff_ne, bne_iff_ne, ne_eq, Bool.not_eq_true', Bool.not_eq_false', bne_eq_false_iff_eq, Bool.not_eq_eq_eq_not, Bool.not_true, Bool.not_false] at h140
                            exact absurd rfl h140
                          · try simp only [decide_eq_true_eq, decide_eq_false_iff_not, beq_iff_eq, beq_eq_false_iff_ne, bne_iff_ne, ne_eq, Bool.not_eq_true', Bool.not_eq_false', bne_eq_false_iff_eq, Bool.not_eq_eq_eq_not, Bool.not_true, Bool.not_false] at h140
                            refine H.skip ?_
                            refine H.blk_normal ?_
                            refine H.then_normal ?_
                            refine H.region ?_
                            refine Ops.quiet (Qt.move rfl) rfl ?_
                            refine Ops.quiet (Qt.add64 rfl rfl (by omega) (by omega)) rfl ?_
                            refine Ops.quiet (Qt.assign rfl) rfl ?_
                            refine Ops.nil ?_
                            refine H.then_normal ?_
                            refine H.round (m + 1) (by omega) (by omega) (by repeat (first | exact trivial | refine ⟨rfl, ?_⟩)) (fun w hw => hw)
                        · have g130' := g130
                          try simp only [decide_eq_true_eq, decide_eq_false_iff_not, beq_iff_eq, beq_eq_false_iff_ne, bne_iff_ne, ne_eq, Bool.not_eq_true', Bool.not_eq_false', bne_eq_false_iff_eq, Bool.not_eq_eq_eq_not, Bool.not_true, Bool.not_false] at g130'
                          exact Bool.noConfusion g130
                      · try simp only [decide_eq_true_eq, decide_eq_false_iff_not, beq_iff_eq, beq_eq_false_iff_ne, bne_iff_ne, ne_eq, Bool.not_eq_true', Bool.not_eq_false', bne_eq_false_iff_eq, Bool.not_eq_eq_eq_not, Bool.not_true, Bool.not_false] at h120
                        have hgd : g.out.drop m = [] := List.drop_of_length_le (by omega)
                        rw [hgd]
                        have hnx := fun fr => spec_Next w0 b1 { g with out := [] } fr
                        refine H.exit ?_
                        refine H.then_exit ?_
                        refine H.then_exit ?_
                        refine H.blk_hit ?_
                        refine H.then_normal ?_
                        refine H.seq ?_
                        refine H.region ?_
                        refine Ops.quiet (Qt.move rfl) rfl ?_
                        refine Ops.quiet (Qt.nilCheck rfl) rfl ?_
                        refine Ops.quiet (Qt.fieldAddr rfl (tk rfl) rfl) rfl ?_
                        refine Ops.eff (Ef.store rfl rfl (tk rfl) rfl rfl (by repeat (first | exact ones_nil | refine ones_cons rfl ?_)) (by repeat (first | exact Upd.head | apply Upd.tail)) (by rfl)) rfl ?_
                        rintro _ _ rfl
                        refine Ops.nil ?_
                        refine H.then_normal ?_
                        refine H.seq ?_
                        refine H.seq ?_
                        refine H.region ?_
                        refine Ops.quiet (Qt.move rfl) rfl ?_
                        refine Ops.eff (Ef.call (fok fab_all rfl Tryd.func14 rfl) rfl (hnx _)) rfl ?_
                        rintro _ _ ⟨rfl, rfl⟩
                        refine Ops.quiet (Qt.move rfl) rfl ?_
                        refine Ops.quiet (Qt.extract rfl rfl) rfl ?_
                        refine Ops.quiet (Qt.extract rfl rfl) rfl ?_
                        refine Ops.quiet (Qt.assign rfl) rfl ?_
                        refine Ops.quiet (Qt.assign rfl) rfl ?_
                        refine Ops.nil ?_
                        refine H.then_normal ?_
                        refine H.seq ?_
                        refine H.drawn_all 8 mixed (by kernel_rfl) ?_
                        refine Hd.quiet 0 (by kernel_rfl) rfl rfl (by kernel_rfl) rfl (Qt.move rfl) ?_
                        refine Hd.quiet 1 (by kernel_rfl) rfl rfl (by kernel_rfl) rfl (Qt.move rfl) ?_
                        refine Hd.case (d := 150) rfl (fun g150 => ?_) (fun g150 => ?_)
                        · have g150' := g150
                          try simp only [decide_eq_true_eq, decide_eq_false_iff_not, beq_iff_eq, beq_eq_false_iff_ne, bne_iff_ne, ne_eq, Bool.not_eq_true', Bool.not_eq_false', bne_eq_false_iff_eq, Bool.not_eq_eq_eq_not, Bool.not_true, Bool.not_false] at g150'
                          exact Bool.noConfusion g150
                        · have g150' := g150
                          try simp only [decide_eq_true_eq, decide_eq_false_iff_not, beq_iff_eq, beq_eq_false_iff_ne, bne_iff_ne, ne_eq, Bool.not_eq_true', Bool.not_eq_false', bne_eq_false_iff_eq, Bool.not_eq_eq_eq_not, Bool.not_true, Bool.not_false] at g150'
                          refine Hd.guard_yes 2 (by kernel_rfl) rfl rfl (by kernel_rfl) rfl rfl rfl rfl g150 (Qt.move rfl) ?_
                          refine Hd.guard_yes 4 (by kernel_rfl) rfl rfl (by kernel_rfl) rfl rfl rfl rfl g150 (Qt.move rfl) ?_
                          refine Hd.guard_yes 5 (by kernel_rfl) rfl rfl (by kernel_rfl) rfl rfl rfl rfl g150 (Qt.nilCheck rfl) ?_
                          refine Hd.guard_yes 6 (by kernel_rfl) rfl rfl (by kernel_rfl) rfl rfl rfl rfl g150 (Qt.fieldAddr rfl (tk rfl) rfl) ?_
                          refine Hd.guard_yes 7 (by kernel_rfl) rfl rfl (by kernel_rfl) rfl rfl rfl rfl g150 (Qt.load rfl (tk rfl) rfl (by repeat (first | exact List.Mem.head _ | apply List.Mem.tail)) (by rfl)) ?_
                          refine Hd.eff_g 3 (by intro w hw; first | exact hw | exact Own.sub (by repeat (first | exact List.Sublist.refl _ | exact List.nil_sublist _ | apply List.Sublist.cons_cons | apply List.Sublist.cons)) hw) rfl rfl (by kernel_rfl) rfl rfl rfl rfl g150 (Ef.call (fok fab_all rfl Tryd.func15 rfl) rfl (spec_Over w0 b1 { g with out := [] } _)) ?_
                          rintro _ _ ⟨rfl, rfl⟩
                          refine Hd.tail (by intro w hw; first | exact hw | exact Own.sub (by repeat (first | exact List.Sublist.refl _ | exact List.nil_sublist _ | apply List.Sublist.cons_cons | apply List.Sublist.cons)) hw) (by kernel_rfl) rfl ?_
                          refine Ops.guard_yes rfl rfl rfl rfl g150 ?_
                          refine Ops.quiet (Qt.bne rfl rfl (tk rfl)) rfl ?_
                          refine Ops.quiet (Qt.pick_f rfl rfl g150) rfl ?_
                          refine Ops.nil ?_
                          refine H.then_normal ?_
                          refine H.cond_false rfl (by simp) ?_
                          refine H.skip ?_
                          refine H.then_normal ?_
                          refine H.seq ?_
                          have hgc : g.codes.length ≤ 1000000 := by rw [hgv.inv.ok.clen, hgv.tg]; omega
                          refine H.region ?_
                          refine Ops.quiet (Qt.move rfl) rfl ?_
                          refine Ops.eff (Ef.call (fok fab_all rfl Tryd.func16 rfl) rfl (spec_Codes w0 b1 { g with out := [] } _ hgc)) rfl ?_
                          rintro _ _ ⟨A160, rfl, k160, rfl⟩
                          refine Ops.quiet (Qt.assign rfl) rfl ?_
                          refine Ops.nil ?_
                          refine H.then_normal ?_
                          refine H.seq ?_
                          refine H.seq ?_
                          refine H.region ?_
                          refine Ops.quiet (Qt.move rfl) rfl ?_
                          refine Ops.quiet (Qt.len_sl (ats := #[]) rfl (tk rfl)) rfl ?_
                          refine Ops.quiet (Qt.move rfl) rfl ?_
                          refine Ops.quiet (Qt.nilCheck rfl) rfl ?_
                          refine Ops.quiet (Qt.fieldAddr rfl (tk rfl) rfl) rfl ?_
                          refine Ops.quiet (Qt.load rfl (tk rfl) rfl (by repeat (first | exact List.Mem.head _ | apply List.Mem.tail)) (by rfl)) rfl ?_
                          refine Ops.quiet (Qt.len_sl (ats := #[]) rfl (tk rfl)) rfl ?_
                          refine Ops.quiet (Qt.neq rfl rfl) rfl ?_
                          refine Ops.nil ?_
                          refine H.then_normal ?_
                          refine H.cond_false rfl (by simp [kl1]) ?_
                          refine H.skip ?_
                          refine H.then_normal ?_
                          refine H.seq ?_
                          refine H.region ?_
                          refine Ops.quiet (Qt.assign rfl) rfl ?_
                          refine Ops.nil ?_
                          refine H.then_normal ?_
                          refine H.block ?_
                          refine H.loop (X := Nat) (fun m => [(0, str host), (1, str frm), (2, .slice tA tn tc), (3, .slice bA bn bc), (4, .slice sA sn sc), (5, .int .u8 lost), (16, ptr b1), (17, ptr b2), (18, num (i : Int)), (24, .slice A160 g.codes.length g.codes.length), (25, num m)]) (fun m => client b1 { g with out := [] } :: osl 3 A160 g.codes.length k160 (g.codes.map num) :: blk b2 [str g.host, str g.frm, .slice tA tn tc, .slice bA bn bc, .slice wA wn wc, num cd, .slice none 0 0, num st, .slice kA kn kc, bol g.over] 33 :: osl 5 wA wn wc (g.wait.map u8v) :: osl 9 rA rn rc (g.out.map str) :: osl 3 kA kn kc (g.codes.map num) :: cs) (fun m => m ≤ kn) (fun m => kn - m) 0 (Nat.zero_le _) (by repeat (first | exact trivial | refine ⟨rfl, ?_⟩)) (fun w hw => hw) ?_
                          intro q hq5
                          refine H.seq ?_
                          refine H.seq ?_
                          refine H.region ?_
                          refine Ops.quiet (Qt.move rfl) rfl ?_
                          refine Ops.quiet (Qt.move rfl) rfl ?_
                          refine Ops.quiet (Qt.len_sl (ats := #[]) rfl (tk rfl)) rfl ?_
                          refine Ops.quiet (Qt.lss rfl rfl) rfl ?_
                          refine Ops.nil ?_
                          refine H.then_normal ?_
                          refine H.cond rfl (fun h172 => ?_) (fun h172 => ?_)
                          · try simp only [decide_eq_true_eq, decide_eq_false_iff_not, beq_iff_eq, beq_eq_false_iff_ne, bne_iff_ne, ne_eq, Bool.not_eq_true', Bool.not_eq_false', bne_eq_false_iff_eq, Bool.not_eq_eq_eq_not, Bool.not_true, Bool.not_false] at h172
                            have hq6 : q < g.codes.length := by
                              have h9 : (q : Int) < g.codes.length := h172
                              omega
                            have hq7 : (q : Int) < (g.codes.length : Int) := by omega
                            have hq8 : ((q : Int).toNat) < g.codes.length := by omega
                            have hq9 : ((q : Int).toNat) < kn := by omega
                            refine H.skip ?_
                            refine H.then_normal ?_
                            refine H.seq ?_
                            refine H.block ?_
                            refine H.seq ?_
                            refine H.drawn_all 11 mixed (by kernel_rfl) ?_
                            refine Hd.quiet 0 (by kernel_rfl) rfl rfl (by kernel_rfl) rfl (Qt.move rfl) ?_
                            refine Hd.quiet 1 (by kernel_rfl) rfl rfl (by kernel_rfl) rfl (Qt.move rfl) ?_
                            refine Hd.quiet 2 (by kernel_rfl) rfl rfl (by kernel_rfl) rfl (Qt.indexAddr rfl rfl (tk rfl) (tk rfl) rfl (Reads.clip (c := k160) (xs := g.codes.map num) (by repeat (first | assumption | exact Reads.of_head | apply Reads.tail))) (by omega) (by omega)) ?_
                            refine Hd.quiet 3 (by kernel_rfl) rfl rfl (by kernel_rfl) rfl (Qt.load_map (0 : Int) rfl (tk rfl) rfl (Reads.clip (c := k160) (by repeat (first | assumption | exact Reads.of_head | apply Reads.tail))) (by omega)) ?_
                            refine Hd.quiet 4 (by kernel_rfl) rfl rfl (by kernel_rfl) rfl (Qt.move rfl) ?_
                            refine Hd.quiet 5 (by kernel_rfl) rfl rfl (by kernel_rfl) rfl (Qt.nilCheck rfl) ?_
                            refine Hd.quiet 6 (by kernel_rfl) rfl rfl (by kernel_rfl) rfl (Qt.fieldAddr rfl (tk rfl) rfl) ?_
                            refine Hd.quiet 7 (by kernel_rfl) rfl rfl (by kernel_rfl) rfl (Qt.load rfl (tk rfl) rfl (by repeat (first | exact List.Mem.head _ | apply List.Mem.tail)) (by rfl)) ?_
                            refine Hd.quiet 8 (by kernel_rfl) rfl rfl (by kernel_rfl) rfl (Qt.move rfl) ?_
                            refine Hd.quiet 9 (by kernel_rfl) rfl rfl (by kernel_rfl) rfl (Qt.indexAddr rfl rfl (tk rfl) (tk rfl) rfl (by repeat (first | assumption | exact Reads.of_head | apply Reads.tail)) (by omega) (by omega)) ?_
                            refine Hd.quiet 10 (by kernel_rfl) rfl rfl (by kernel_rfl) rfl (Qt.load_map (0 : Int) rfl (tk rfl) rfl (by repeat (first | assumption | exact Reads.of_head | apply Reads.tail)) (by omega)) ?_
                            refine Hd.tail (by intro w hw; first | exact hw | exact Own.sub (by repeat (first | exact List.Sublist.refl _ | exact List.nil_sublist _ | apply List.Sublist.cons_cons | apply List.Sublist.cons)) hw) (by kernel_rfl) rfl ?_
                            refine Ops.quiet (Qt.neq rfl rfl) rfl ?_
                            refine Ops.nil ?_
                            refine H.then_normal ?_
                            refine H.cond_false rfl (by simp) ?_
                            refine H.skip ?_
                            refine H.blk_normal ?_
                            refine H.then_normal ?_
                            refine H.region ?_
                            refine Ops.quiet (Qt.move rfl) rfl ?_
                            refine Ops.quiet (Qt.add64 rfl rfl (by omega) (by omega)) rfl ?_
                            refine Ops.quiet (Qt.assign rfl) rfl ?_
                            refine Ops.nil ?_
                            refine H.then_normal ?_
                            refine H.round (q + 1) (by omega) (by omega) (by repeat (first | exact trivial | refine ⟨rfl, ?_⟩)) (fun w hw => hw)
                          · try simp only [decide_eq_true_eq, decide_eq_false_iff_not, beq_iff_eq, beq_eq_false_iff_ne, bne_iff_ne, ne_eq, Bool.not_eq_true', Bool.not_eq_false', bne_eq_false_iff_eq, Bool.not_eq_eq_eq_not, Bool.not_true, Bool.not_false] at h172
                            refine H.exit ?_
                            refine H.then_exit ?_
                            refine H.then_exit ?_
                            refine H.blk_hit ?_
                            refine H.blk_normal ?_
                            refine H.then_normal ?_
                            refine H.region ?_
                            refine Ops.quiet (Qt.move rfl) rfl ?_
                            refine Ops.quiet (Qt.add64 rfl rfl (by omega) (by omega)) rfl ?_
                            refine Ops.quiet (Qt.assign rfl) rfl ?_
                            refine Ops.nil ?_
                            refine H.then_normal ?_
                            refine H.round ({ g with out := [] }, i + 1) ⟨⟨Cl.out_inv hgv.inv, hgv.tg, hgv.bd, hgv.rc, Nat.le_trans (show 0 + g.wait.length ≤ g.out.length + g.wait.length by omega) hgv.o, hgv.r⟩, rfl, by show i + 1 ≤ sn + 1; omega⟩ (by simp only []; omega) (by repeat (first | exact trivial | refine ⟨rfl, ?_⟩)) (fun w hw => ?_)
                            have hw2 := pack6 (et := 9) (hw.sub (cs' := client b1 { g with out := [] } :: blk b2 [str g.host, str g.frm, .slice tA tn tc, .slice bA bn bc, .slice wA wn wc, num cd, .slice none 0 0, num st, .slice kA kn kc, bol g.over] 33 :: osl 5 wA wn wc (g.wait.map u8v) :: osl 3 kA kn kc (g.codes.map num) :: cs) (by repeat (first | exact List.Sublist.refl _ | exact List.nil_sublist _ | apply List.Sublist.cons_cons | apply List.Sublist.cons)))
                            exact (refc_mk { g with out := [] } (a := ⟨tA, tn, tc, bA, bn, bc⟩) hsc hw2).perm (.swap _ _ _)
                · try simp only [decide_eq_true_eq, decide_eq_false_iff_not, beq_iff_eq, beq_eq_false_iff_ne, bne_iff_ne, ne_eq, Bool.not_eq_true', Bool.not_eq_false', bne_eq_false_iff_eq, Bool.not_eq_eq_eq_not, Bool.not_true, Bool.not_false] at h87
                  refine H.exit ?_
                  refine H.then_exit ?_
                  refine H.then_exit ?_
                  refine H.blk_hit ?_
                  refine H.then_normal ?_
                  refine H.seq ?_
                  refine H.region ?_
                  refine Ops.eff (Ef.call (fok fab_all rfl Tryd.func7 rfl) rfl (spec_answers w0 hG _)) rfl ?_
                  rintro _ _ ⟨rfl, rfl⟩
                  refine Ops.quiet (Qt.assign rfl) rfl ?_
                  refine Ops.nil ?_
                  refine H.then_normal ?_
                  refine H.ret ?_
                  refine (H.ends rfl (.cons (.tmp rfl) .nil) ?_)
                  rfl
      · have g39' := g39
        try simp only [decide_eq_true_eq, decide_eq_false_iff_not, beq_iff_eq, beq_eq_false_iff_ne, bne_iff_ne, ne_eq, Bool.not_eq_true', Bool.not_eq_false', bne_eq_false_iff_eq, Bool.not_eq_eq_eq_not, Bool.not_true, Bool.not_false] at g39'
        refine Ops.guard_no rfl rfl rfl rfl g39 ?_
        refine Ops.guard_no rfl rfl rfl rfl g39 ?_
        refine Ops.quiet (Qt.pick_t rfl rfl g39) rfl ?_
        refine Ops.nil ?_
        refine H.then_normal ?_
        refine H.cond_true rfl (by rfl) ?_
        refine H.seq ?_
        refine H.region ?_
        refine Ops.eff (Ef.call (fok fab_all rfl Tryd.func7 rfl) rfl (spec_answers w0 hG _)) rfl ?_
        rintro _ _ ⟨rfl, rfl⟩
        refine Ops.quiet (Qt.assign rfl) rfl ?_
        refine Ops.nil ?_
        refine H.then_normal ?_
        refine H.ret ?_
        refine H.then_ret ?_
        refine (H.ends rfl (.cons (.tmp rfl) .nil) ?_)
        rfl
    · have g34' := g34
      try simp only [decide_eq_true_eq, decide_eq_false_iff_not, beq_iff_eq, beq_eq_false_iff_ne, bne_iff_ne, ne_eq, Bool.not_eq_true', Bool.not_eq_false', bne_eq_false_iff_eq, Bool.not_eq_eq_eq_not, Bool.not_true, Bool.not_false] at g34'
      refine Ops.guard_no rfl rfl rfl rfl g34 ?_
      refine Ops.guard_no rfl rfl rfl rfl g34 ?_
      refine Ops.quiet (Qt.pick_t rfl rfl g34) rfl ?_
      refine Ops.quiet (Qt.move rfl) rfl ?_
      refine Ops.guard rfl rfl rfl rfl (fun g39 => ?_) (fun g39 => ?_)
      · have g39' := g39
        try simp only [decide_eq_true_eq, decide_eq_false_iff_not, beq_iff_eq, beq_eq_false_iff_ne, bne_iff_ne, ne_eq, Bool.not_eq_true', Bool.not_eq_false', bne_eq_false_iff_eq, Bool.not_eq_eq_eq_not, Bool.not_true, Bool.not_false] at g39'
        exact Bool.noConfusion g39
      · have g39' := g39
        try simp only [decide_eq_true_eq, decide_eq_false_iff_not, beq_iff_eq, beq_eq_false_iff_ne, bne_iff_ne, ne_eq, Bool.not_eq_true', Bool.not_eq_false', bne_eq_false_iff_eq, Bool.not_eq_eq_eq_not, Bool.not_true, Bool.not_false] at g39'
        refine Ops.guard_no rfl rfl rfl rfl g39 ?_
        refine Ops.guard_no rfl rfl rfl rfl g39 ?_
        refine Ops.quiet (Qt.pick_t rfl rfl g39) rfl ?_
        refine Ops.nil ?_
        refine H.then_normal ?_
        refine H.cond_true rfl (by rfl) ?_
        refine H.seq ?_
        refine H.region ?_
        refine Ops.eff (Ef.call (fok fab_all rfl Tryd.func7 rfl) rfl (spec_answers w0 hG _)) rfl ?_
        rintro _ _ ⟨rfl, rfl⟩
        refine Ops.quiet (Qt.assign rfl) rfl ?_
        refine Ops.nil ?_
        refine H.then_normal ?_
        refine H.ret ?_
        refine H.then_ret ?_
        refine (H.ends rfl (.cons (.tmp rfl) .nil) ?_)
        rfl
  · have g29' := g29
    try simp only [decide_eq_true_eq, decide_eq_false_iff_not, beq_iff_eq, beq_eq_false_iff_ne, bne_iff_ne, ne_eq, Bool.not_eq_true', Bool.not_eq_false', bne_eq_false_iff_eq, Bool.not_eq_eq_eq_not, Bool.not_true, Bool.not_false] at g29'
    refine Ops.guard_no rfl rfl rfl rfl g29 ?_
    refine Ops.guard_no rfl rfl rfl rfl g29 ?_
    refine Ops.quiet (Qt.pick_t rfl rfl g29) rfl ?_
    refine Ops.quiet (Qt.move rfl) rfl ?_
    refine Ops.guard rfl rfl rfl rfl (fun g34 => ?_) (fun g34 => ?_)
    · have g34' := g34
      try simp only [decide_eq_true_eq, decide_eq_false_iff_not, beq_iff_eq, beq_eq_false_iff_ne, bne_iff_ne, ne_eq, Bool.not_eq_true', Bool.not_eq_false', bne_eq_false_iff_eq, Bool.not_eq_eq_eq_not, Bool.not_true, Bool.not_false] at g34'
      exact Bool.noConfusion g34
    · have g34' := g34
      try simp only [decide_eq_true_eq, decide_eq_false_iff_not, beq_iff_eq, beq_eq_false_iff_ne, bne_iff_ne, ne_eq, Bool.not_eq_true', Bool.not_eq_false', bne_eq_false_iff_eq, Bool.not_eq_eq_eq_not, Bool.not_true, Bool.not_false] at g34'
      refine Ops.guard_no rfl rfl rfl rfl g34 ?_
      refine Ops.guard_no rfl rfl rfl rfl g34 ?_
      refine Ops.quiet (Qt.pick_t rfl rfl g34) rfl ?_
      refine Ops.quiet (Qt.move rfl) rfl ?_
      refine Ops.guard rfl rfl rfl rfl (fun g39 => ?_) (fun g39 => ?_)
      · have g39' := g39
        try simp only [decide_eq_true_eq, decide_eq_false_iff_not, beq_iff_eq, beq_eq_false_iff_ne, bne_iff_ne, ne_eq, Bool.not_eq_true', Bool.not_eq_false', bne_eq_false_iff_eq, Bool.not_eq_eq_eq_not, Bool.not_true, Bool.not_false] at g39'
        exact Bool.noConfusion g39
      · have g39' := g39
        try simp only [decide_eq_true_eq, decide_eq_false_iff_not, beq_iff_eq, beq_eq_false_iff_ne, bne_iff_ne, ne_eq, Bool.not_eq_true', Bool.not_eq_false', bne_eq_false_iff_eq, Bool.not_eq_eq_eq_not, Bool.not_true, Bool.not_false] at g39'
        refine Ops.guard_no rfl rfl rfl rfl g39 ?_
        refine Ops.guard_no rfl rfl rfl rfl g39 ?_
        refine Ops.quiet (Qt.pick_t rfl rfl g39) rfl ?_
        refine Ops.nil ?_
        refine H.then_normal ?_
        refine H.cond_true rfl (by rfl) ?_
        refine H.seq ?_
        refine H.region ?_
        refine Ops.eff (Ef.call (fok fab_all rfl Tryd.func7 rfl) rfl (spec_answers w0 hG _)) rfl ?_
        rintro _ _ ⟨rfl, rfl⟩
        refine Ops.quiet (Qt.assign rfl) rfl ?_
        refine Ops.nil ?_
        refine H.then_normal ?_
        refine H.ret ?_
        refine H.then_ret ?_
        refine (H.ends rfl (.cons (.tmp rfl) .nil) ?_)
        rfl
end Go.Proofs.YtimldpbddkhedaaDoor
