/- The document's session with the next hop: bytes come. -/
import Derived.Test.YtimldpbddkhedaaDoorRcl
namespace Go.Proofs.YtimldpbddkhedaaDoor
open Go Go.RowKit
set_option maxRecDepth 100000
set_option linter.unusedVariables false
set_option linter.unusedSimpArgs false
attribute [local irreducible] Go.wpList Go.Code.wp Go.Exit.then Go.Exit.inBlock Go.Exit.noGoto Ends blk osl oblk LoopI Own Spec
theorem occ_crlf {w : Bs} {i : Nat} (h : i + 1 < w.length) : Lib.occAt w [13, 10] i = (((w.getD i 0).toNat : Int) == 13 && ((w.getD (i + 1) 0).toNat : Int) == 10) := by
  have h1 : w.drop i = w.getD i 0 :: w.getD (i + 1) 0 :: w.drop (i + 2) := by
    rw [List.drop_eq_getElem_cons (show i < w.length by omega), List.drop_eq_getElem_cons h]
    simp [List.getD_eq_getElem?_getD, h, show i < w.length by omega]
  unfold Lib.occAt
  rw [h1]
  simp only [List.isPrefixOf, Bool.and_true]
  have e : ∀ (a b : UInt8), (a == b) = ((b.toNat : Int) == (a.toNat : Int)) := by
    intro a b
    rw [Bool.eq_iff_iff]
    simp only [beq_iff_eq]
    constructor
    · intro h; rw [h]
    · intro h; exact (u8_eq h).symm
  rw [e, e]
  rfl
theorem Reads.sub_map {α : Type} {f : α → Value} {l : List α} {w0 : World} {cs : List SProp} {A : Option Addr} {n c lo hi : Nat} (hr : Reads w0 cs A n c (l.map f)) (h1 : lo ≤ hi) (h2 : hi ≤ n) : Reads w0 cs (cutA A c lo) (hi - lo) (c - lo) (((l.drop lo).take (hi - lo)).map f) := by
  have := hr.cut h1 h2
  rwa [← List.map_drop, ← List.map_take] at this
structure Fr (T : List Bs) (body : List Bs) (R : Cl) (p : Cl × Nat) : Prop where
  inv : Inv p.1
  o : p.1.out.length + p.1.wait.length ≤ 1000000
  r : p.1.rlines.length + p.1.wait.length ≤ 1000000
  run : ∃ k, p.1.wait.length < k ∧ fdRun k p.1 = R
  i : p.2 ≤ p.1.wait.length
  no : Lib.NoOcc p.1.wait [13, 10] p.2
  tg : p.1.targets = T
  bd : p.1.over = false → p.1.body = stuffB body ++ [46, 13, 10]
  rc : p.1.rlines.length = 0 ∨ p.1.rcode ≠ 0
theorem split_ok {l : Ln} (h : (splitL l).ok = true) : 200 ≤ (splitL l).n := by
  unfold splitL at h ⊢
  split at h
  · simp at h
  rename_i h1
  rw [if_neg h1]
  split at h
  · simp at h
  rename_i h2
  rw [if_neg h2]
  split at h
  · rename_i h3
    rw [if_pos h3]
    simp [codeOk] at h
    exact h.1
  · rename_i h3
    rw [if_neg h3]
    simp [codeOk] at h
    exact h.1.1
theorem oneL_ok (l : Ln) : (oneL l).ok = (splitL l).ok := by
  unfold oneL
  split
  · rfl
  · rename_i h; simpa using h
theorem oneL_eq {l : Ln} (h : (oneL l).ok = true) : oneL l = splitL l := by
  rw [oneL_ok] at h
  unfold oneL; rw [if_pos h]
theorem spec_rfeedC (w0 : World) (b : Nat) (a : Ra) (c : Cl) (x : Bs) (body : List Bs) {A : Option Addr} {n cap : Nat} (fr : List SProp) (hr : Reads w0 fr A n cap (x.map u8v)) (hI : Inv c) (ho : c.out.length + (c.wait.length + x.length) ≤ 1000000) (hrl : c.rlines.length + (c.wait.length + x.length) ≤ 1000000)
    (ht : Reads w0 fr a.tA a.tn a.tc (c.targets.map str)) (hb : Reads w0 fr a.bA a.bn a.bc (body.map str)) (hbd : c.over = false → c.body = stuffB body ++ [46, 13, 10]) (hbs : sizeL body + body.length ≤ 4611686018427387904) (hrc : c.rlines.length = 0 ∨ c.rcode ≠ 0) :
    Spec Tryd.prog w0 11 [ptr b, .slice A n cap] (refc b a c :: fr) (fun v cs' => v = unit ∧ cs' = refc b a (c.feed x) :: fr) := by
  refine Spec.of_body Tryd.func11 rfl Tryd.ntmps11 rfl ?_
  refine H.open_refc fun st cd wA wn wc sA sn sc cA cn cc hsc ⟨wl1, wl2, wl3⟩ ⟨sl1, sl2, sl3⟩ ⟨cl1, cl2, cl3⟩ => ?_
  refine H.fact (fun w hw => (hr.tail.tail.tail.tail w hw).facts) fun ⟨xl1, xl2, xl3, xl4⟩ => ?_
  simp only [List.length_map] at xl1
  refine H.seq ?_
  refine H.seq ?_
  refine H.region ?_
  refine Ops.quiet (Qt.move rfl) rfl ?_
  refine Ops.quiet (Qt.nilCheck rfl) rfl ?_
  refine Ops.quiet (Qt.fieldAddr rfl (tk rfl) rfl) rfl ?_
  refine Ops.quiet (Qt.load rfl (tk rfl) rfl (by repeat (first | exact List.Mem.head _ | apply List.Mem.tail)) (by rfl)) rfl ?_
  refine Ops.nil ?_
  refine H.then_normal ?_
  refine H.cond rfl (fun h13 => ?_) (fun h13 => ?_)
  · try simp only [decide_eq_true_eq, decide_eq_false_iff_not, beq_iff_eq, beq_eq_false_iff_ne, bne_iff_ne, ne_eq, Bool.not_eq_true', Bool.not_eq_false', bne_eq_false_iff_eq, Bool.not_eq_eq_eq_not, Bool.not_true, Bool.not_false] at h13
    refine H.ret ?_
    refine H.then_ret ?_
    refine H.conv (fun w hw => refc_mk c (a := a) hsc hw) (H.ends rfl (ResAll.nil) ?_)
    exact ⟨rfl, by rw [Cl.feed, if_pos h13]⟩
  · try simp only [decide_eq_true_eq, decide_eq_false_iff_not, beq_iff_eq, beq_eq_false_iff_ne, bne_iff_ne, ne_eq, Bool.not_eq_true', Bool.not_eq_false', bne_eq_false_iff_eq, Bool.not_eq_eq_eq_not, Bool.not_true, Bool.not_false] at h13
    refine H.skip ?_
    refine H.then_normal ?_
    refine H.seq ?_
    refine H.region ?_
    refine Ops.quiet (Qt.move rfl) rfl ?_
    refine Ops.eff (Ef.buildSlice (tk rfl) (tk rfl) rfl (zk rfl) rfl rfl rfl (by repeat (first | exact ones_nil | refine ones_cons rfl ?_))) rfl ?_
    rintro _ _ ⟨A15, c15, rfl, rfl⟩
    refine Ops.quiet (Qt.move rfl) rfl ?_
    refine Ops.quiet (Qt.nilCheck rfl) rfl ?_
    refine Ops.quiet (Qt.fieldAddr rfl (tk rfl) rfl) rfl ?_
    refine Ops.quiet (Qt.load rfl (tk rfl) rfl (by repeat (first | exact List.Mem.head _ | apply List.Mem.tail)) (by rfl)) rfl ?_
    refine Ops.eff (Ef.append rfl rfl (tk rfl) (tk rfl) rfl (zk rfl) (by repeat (first | assumption | exact Reads.of_head | apply Reads.tail)) (by intro _ _; repeat (first | exact Upd.head | apply Upd.tail)) (ones_map (fun _ => rfl) _) (by dsimp only; omega) (by simp only [Go.maxLen]; omega)) rfl ?_
    rintro _ _ ⟨A20, c20, rfl, rfl⟩
    refine Ops.quiet (Qt.move rfl) rfl ?_
    refine Ops.eff (Ef.append rfl rfl (tk rfl) (tk rfl) rfl (zk rfl) (by repeat (first | assumption | exact Reads.of_head | apply Reads.tail)) (by intro _ _; repeat (first | exact Upd.head | apply Upd.tail)) (ones_map (fun _ => rfl) _) (by dsimp only; omega) (by simp only [Go.maxLen]; omega)) rfl ?_
    rintro _ _ ⟨A22, c22, rfl, rfl⟩
    refine Ops.quiet (Qt.nilCheck rfl) rfl ?_
    refine Ops.quiet (Qt.fieldAddr rfl (tk rfl) rfl) rfl ?_
    refine Ops.eff (Ef.store rfl rfl (tk rfl) rfl rfl (by repeat (first | exact ones_nil | refine ones_cons rfl ?_)) (by repeat (first | exact Upd.head | apply Upd.tail)) (by rfl)) rfl ?_
    rintro _ _ rfl
    refine Ops.nil ?_
    refine H.then_normal ?_
    refine H.seq ?_
    refine H.region ?_
    refine Ops.quiet (Qt.assign rfl) rfl ?_
    refine Ops.nil ?_
    refine H.then_normal ?_
    refine H.block ?_
    refine H.loop (X := Cl × Nat) (fun p => [(0, ptr b), (4, num p.2)]) (fun p => refc b a p.1 :: fr) (Fr c.targets body (c.feed x)) (fun p => 2 * p.1.wait.length - p.2) ({ c with wait := c.wait ++ x }, 0) ⟨Cl.wait_inv hI _, by simp only [List.length_append]; omega, by simp only [List.length_append]; omega, ⟨_, Nat.lt_succ_self _, by rw [Cl.feed, h13]; rfl⟩, Nat.zero_le _, Lib.NoOcc.zero _ _, rfl, hbd, hrc⟩ (by repeat (first | exact trivial | refine ⟨rfl, ?_⟩))
      (fun w hw => refc_mk { c with wait := c.wait ++ x } (a := a) hsc (by rw [List.map_append]; exact (Own.sub (by repeat (first | exact List.Sublist.refl _ | exact List.nil_sublist _ | apply List.Sublist.cons_cons | apply List.Sublist.cons)) hw).perm (.swap (blk b _ _) (osl _ A22 _ c22 (c.wait.map u8v ++ x.map u8v)) _))) ?_
    generalize hT : c.targets = T at ht ⊢
    generalize hR : c.feed x = R
    clear hI ho hrl hbd hrc h13 hsc wl1 wl2 wl3 sl1 sl2 sl3 cl1 cl2 cl3
    rintro ⟨c, i⟩ ⟨hI, ho, hrl, ⟨k, hk, hrun⟩, hi, hno, htg, hbd, hrc⟩
    simp only at hI ho hrl hk hrun hi hno htg hbd hrc
    change H _ _ [(0, ptr b), (4, num (i : Int))] (refc b a c :: fr) _
    refine H.open_refc fun st cd wA wn wc sA sn sc cA cn cc hsc ⟨wl1, wl2, wl3⟩ ⟨sl1, sl2, sl3⟩ ⟨cl1, cl2, cl3⟩ => ?_
    refine H.seq ?_
    refine H.seq ?_
    refine H.region ?_
    refine Ops.quiet (Qt.move rfl) rfl ?_
    refine Ops.quiet (Qt.add64 rfl rfl (by omega) (by omega)) rfl ?_
    refine Ops.quiet (Qt.move rfl) rfl ?_
    refine Ops.quiet (Qt.nilCheck rfl) rfl ?_
    refine Ops.quiet (Qt.fieldAddr rfl (tk rfl) rfl) rfl ?_
    refine Ops.quiet (Qt.load rfl (tk rfl) rfl (by repeat (first | exact List.Mem.head _ | apply List.Mem.tail)) (by rfl)) rfl ?_
    refine Ops.quiet (Qt.len_sl (ats := #[]) rfl (tk rfl)) rfl ?_
    refine Ops.quiet (Qt.lss rfl rfl) rfl ?_
    refine Ops.quiet (Qt.move rfl) rfl ?_
    refine Ops.guard rfl rfl rfl rfl (fun g33 => ?_) (fun g33 => ?_)
    · have g33' := g33
      try simp only [decide_eq_true_eq, decide_eq_false_iff_not, beq_iff_eq, beq_eq_false_iff_ne, bne_iff_ne, ne_eq, Bool.not_eq_true', Bool.not_eq_false', bne_eq_false_iff_eq, Bool.not_eq_eq_eq_not, Bool.not_true, Bool.not_false] at g33'
      refine Ops.quiet (Qt.move rfl) rfl ?_
      refine Ops.guard_yes rfl rfl rfl rfl g33 ?_
      refine Ops.quiet (Qt.nilCheck rfl) rfl ?_
      refine Ops.guard_yes rfl rfl rfl rfl g33 ?_
      refine Ops.quiet (Qt.fieldAddr rfl (tk rfl) rfl) rfl ?_
      refine Ops.guard_yes rfl rfl rfl rfl g33 ?_
      refine Ops.quiet (Qt.load rfl (tk rfl) rfl (by repeat (first | exact List.Mem.head _ | apply List.Mem.tail)) (by rfl)) rfl ?_
      refine Ops.guard_yes rfl rfl rfl rfl g33 ?_
      refine Ops.quiet (Qt.not rfl) rfl ?_
      refine Ops.quiet (Qt.pick_t rfl rfl g33) rfl ?_
      refine Ops.nil ?_
      refine H.then_normal ?_
      refine H.cond rfl (fun h39 => ?_) (fun h39 => ?_)
      · try simp only [decide_eq_true_eq, decide_eq_false_iff_not, beq_iff_eq, beq_eq_false_iff_ne, bne_iff_ne, ne_eq, Bool.not_eq_true', Bool.not_eq_false', bne_eq_false_iff_eq, Bool.not_eq_eq_eq_not, Bool.not_true, Bool.not_false] at h39
        have hov : c.over = false := by simpa using h39
        have hi1 : i + 1 < c.wait.length := by omega
        have hocc := occ_crlf hi1
        refine H.skip ?_
        refine H.then_normal ?_
        refine H.seq ?_
        refine H.block ?_
        refine H.seq ?_
        refine H.seq ?_
        refine H.region ?_
        refine Ops.quiet (Qt.move rfl) rfl ?_
        refine Ops.quiet (Qt.nilCheck rfl) rfl ?_
        refine Ops.quiet (Qt.fieldAddr rfl (tk rfl) rfl) rfl ?_
        refine Ops.quiet (Qt.load rfl (tk rfl) rfl (by repeat (first | exact List.Mem.head _ | apply List.Mem.tail)) (by rfl)) rfl ?_
        refine Ops.quiet (Qt.move rfl) rfl ?_
        refine Ops.quiet (Qt.indexAddr rfl rfl (tk rfl) (tk rfl) rfl (by repeat (first | assumption | exact Reads.of_head | apply Reads.tail)) (by omega) (by omega)) rfl ?_
        refine Ops.quiet (Qt.load_map (0 : UInt8) rfl (tk rfl) rfl (by repeat (first | assumption | exact Reads.of_head | apply Reads.tail)) (by omega)) rfl ?_
        refine Ops.quiet (Qt.neq rfl rfl) rfl ?_
        refine Ops.quiet (Qt.move rfl) rfl ?_
        refine Ops.guard rfl rfl rfl rfl (fun g50 => ?_) (fun g50 => ?_)
        · have g50' := g50
          try simp only [decide_eq_true_eq, decide_eq_false_iff_not, beq_iff_eq, beq_eq_false_iff_ne, bne_iff_ne, ne_eq, Bool.not_eq_true', Bool.not_eq_false', bne_eq_false_iff_eq, Bool.not_eq_eq_eq_not, Bool.not_true, Bool.not_false] at g50'
          refine Ops.quiet (Qt.move rfl) rfl ?_
          refine Ops.guard_yes rfl rfl rfl rfl g50 ?_
          refine Ops.quiet (Qt.nilCheck rfl) rfl ?_
          refine Ops.guard_yes rfl rfl rfl rfl g50 ?_
          refine Ops.quiet (Qt.fieldAddr rfl (tk rfl) rfl) rfl ?_
          refine Ops.guard_yes rfl rfl rfl rfl g50 ?_
          refine Ops.quiet (Qt.load rfl (tk rfl) rfl (by repeat (first | exact List.Mem.head _ | apply List.Mem.tail)) (by rfl)) rfl ?_
          refine Ops.guard_yes rfl rfl rfl rfl g50 ?_
          refine Ops.quiet (Qt.move rfl) rfl ?_
          refine Ops.guard_yes rfl rfl rfl rfl g50 ?_
          refine Ops.quiet (Qt.add64 rfl rfl (by omega) (by omega)) rfl ?_
          refine Ops.guard_yes rfl rfl rfl rfl g50 ?_
          refine Ops.quiet (Qt.indexAddr rfl rfl (tk rfl) (tk rfl) rfl (by repeat (first | assumption | exact Reads.of_head | apply Reads.tail)) (by omega) (by omega)) rfl ?_
          refine Ops.guard_yes rfl rfl rfl rfl g50 ?_
          refine Ops.quiet (Qt.load_map (0 : UInt8) rfl (tk rfl) rfl (by repeat (first | assumption | exact Reads.of_head | apply Reads.tail)) (by omega)) rfl ?_
          refine Ops.guard_yes rfl rfl rfl rfl g50 ?_
          refine Ops.quiet (Qt.neq rfl rfl) rfl ?_
          refine Ops.quiet (Qt.pick_f rfl rfl g50) rfl ?_
          refine Ops.nil ?_
          refine H.then_normal ?_
          refine H.cond rfl (fun h60 => ?_) (fun h60 => ?_)
          · try simp only [decide_eq_true_eq, decide_eq_false_iff_not, beq_iff_eq, beq_eq_false_iff_ne, bne_iff_ne, ne_eq, Bool.not_eq_true', Bool.not_eq_false', bne_eq_false_iff_eq, Bool.not_eq_eq_eq_not, Bool.not_true, Bool.not_false] at h60
            refine H.exit ?_
            refine H.then_exit ?_
            refine H.blk_hit ?_
            refine H.then_normal ?_
            refine H.region ?_
            refine Ops.quiet (Qt.move rfl) rfl ?_
            refine Ops.quiet (Qt.add64 rfl rfl (by omega) (by omega)) rfl ?_
            refine Ops.quiet (Qt.assign rfl) rfl ?_
            refine Ops.nil ?_
            refine H.then_normal ?_
            have ho1 : Lib.occAt c.wait [13, 10] i = false := by
              rw [hocc, show (((c.wait.getD (i + 1) 0).toNat : Int) == 10) = false from beq_eq_false_iff_ne.2 h60, Bool.and_false]
            refine H.conv (fun w hw => refc_mk c (a := a) hsc hw) ?_
            refine H.round (c, i + 1) ⟨hI, ho, hrl, ⟨k, hk, hrun⟩, by simp only []; omega, fun j hj => ?_, htg, hbd, hrc⟩ (by simp only []; omega) (by repeat (first | exact trivial | refine ⟨rfl, ?_⟩)) (fun w hw => hw)
            rcases Nat.lt_succ_iff_lt_or_eq.1 hj with hj | rfl
            · exact hno j hj
            · exact ho1
          · try simp only [decide_eq_true_eq, decide_eq_false_iff_not, beq_iff_eq, beq_eq_false_iff_ne, bne_iff_ne, ne_eq, Bool.not_eq_true', Bool.not_eq_false', bne_eq_false_iff_eq, Bool.not_eq_eq_eq_not, Bool.not_true, Bool.not_false] at h60
            have ho1 : Lib.occAt c.wait [13, 10] i = true := by
              rw [hocc, show (((c.wait.getD i 0).toNat : Int) == 13) = true from beq_iff_eq.2 g50', show (((c.wait.getD (i + 1) 0).toNat : Int) == 10) = true from beq_iff_eq.2 h60]; rfl
            have hidx := Lib.index_hit hno (by omega) ho1
            have hci : crlf c.wait = some i := by unfold crlf; rw [if_neg (by rw [hidx]; omega), hidx]; rfl
            obtain ⟨l, hl⟩ : ∃ l, l = lineOf (c.wait.take i) 512 := ⟨_, rfl⟩
            have hlen := lineOf_len (c.wait.take i) 512
            rw [← hl, List.length_take] at hlen
            obtain ⟨c1, hc1⟩ : ∃ c1, c1 = { c with wait := c.wait.drop (i + 2) } := ⟨_, rfl⟩
            obtain ⟨k', rfl⟩ : ∃ k', k = k' + 1 := ⟨k - 1, by omega⟩
            have hrun' : fdRun k' (Cl.feed1 c1 l) = R := by rw [← hrun, hc1, hl]; simp [fdRun, hov, hci]
            have hln := fun (cs : List SProp) (A : Option Addr) (n cp : Nat) (hr : Reads w0 cs A n cp ((c.wait.take i).map u8v)) => spec_rline w0 (c.wait.take i) 512 cs hr (by rw [List.length_take]; omega)
            simp only [← hl] at hln
            have hc1o : c1.over = false := by rw [hc1]; exact hov
            have hc1i : Inv c1 := by rw [hc1]; exact Cl.wait_inv hI _
            have hw1 : c1.wait.length = c.wait.length - (i + 2) := by rw [hc1]; exact List.length_drop
            have ho2 : c1.out = c.out := by rw [hc1]
            have hr2 : c1.rlines = c.rlines := by rw [hc1]
            have hr3 : c1.rcode = c.rcode := by rw [hc1]
            have ht1 : c1.targets = T := by rw [hc1]; exact htg
            have hb1 : c1.body = stuffB body ++ [46, 13, 10] := by rw [hc1]; exact hbd hov
            have hlost : ∀ d : Cl, d.over = false → d.lost = Cl.fin { d with out := [] } 421 := by intro d hd; unfold Cl.lost; rw [hd]; rfl
            refine H.skip ?_
            refine H.then_normal ?_
            refine H.seq ?_
            refine H.region ?_
            refine Ops.quiet (Qt.move rfl) rfl ?_
            refine Ops.quiet (Qt.nilCheck rfl) rfl ?_
            refine Ops.quiet (Qt.fieldAddr rfl (tk rfl) rfl) rfl ?_
            refine Ops.quiet (Qt.load rfl (tk rfl) rfl (by repeat (first | exact List.Mem.head _ | apply List.Mem.tail)) (by rfl)) rfl ?_
            refine Ops.quiet (Qt.move rfl) rfl ?_
            refine Ops.quiet (Qt.slice rfl (tk rfl) (tk rfl) rfl rfl rfl (by omega) (by omega) (by omega) (by omega)) rfl ?_
            refine Ops.eff (Ef.call (fok fab_all rfl Tryd.func30 rfl) rfl (hln _ _ _ _ (Reads.sub_map (by repeat (first | assumption | exact Reads.of_head | apply Reads.tail)) (by omega) (by omega)))) rfl ?_
            rintro _ _ ⟨rfl, rfl⟩
            refine Ops.eff (Ef.alloc (zk rfl)) rfl ?_
            rintro _ _ ⟨b5, rfl, rfl⟩
            refine Ops.eff (Ef.store rfl rfl (tk rfl) rfl rfl (by repeat (first | exact ones_nil | refine ones_cons rfl ?_)) (by repeat (first | exact Upd.head | apply Upd.tail)) (by rfl)) rfl ?_
            rintro _ _ rfl
            refine Ops.nil ?_
            refine H.then_normal ?_
            refine H.seq ?_
            refine H.region ?_
            refine Ops.quiet (Qt.move rfl) rfl ?_
            refine Ops.quiet (Qt.move rfl) rfl ?_
            refine Ops.quiet (Qt.nilCheck rfl) rfl ?_
            refine Ops.quiet (Qt.fieldAddr rfl (tk rfl) rfl) rfl ?_
            refine Ops.quiet (Qt.load rfl (tk rfl) rfl (by repeat (first | exact List.Mem.head _ | apply List.Mem.tail)) (by rfl)) rfl ?_
            refine Ops.quiet (Qt.move rfl) rfl ?_
            refine Ops.quiet (Qt.add64 rfl rfl (by omega) (by omega)) rfl ?_
            refine Ops.quiet (Qt.slice rfl (tk rfl) (tk rfl) rfl rfl rfl (by omega) (by omega) (by omega) (by omega)) rfl ?_
            refine Ops.quiet (Qt.nilCheck rfl) rfl ?_
            refine Ops.quiet (Qt.fieldAddr rfl (tk rfl) rfl) rfl ?_
            refine Ops.eff (Ef.store rfl rfl (tk rfl) rfl rfl (by repeat (first | exact ones_nil | refine ones_cons rfl ?_)) (by repeat (first | exact Upd.head | apply Upd.tail)) (by rfl)) rfl ?_
            rintro _ _ rfl
            refine Ops.nil ?_
            refine H.then_normal ?_
            refine H.seq ?_
            refine H.region ?_
            refine Ops.quiet (Qt.assign rfl) rfl ?_
            refine Ops.nil ?_
            refine H.then_normal ?_
            refine H.seq ?_
            refine H.conv (fun w hw => refc_mk c1 (a := a) (b := b) (st := st) (cd := cd) (wA := cutA wA wc (i + 2)) (wn := wn - (i + 2)) (wc := wc - (i + 2)) (sA := sA) (sn := sn) (sc := sc) (cA := cA) (cn := cn) (cc := cc) (by rw [hc1]; exact hsc) (by
              have e1 : (((c.wait.map u8v).drop (i + 2)).take (wn - (i + 2))) = (c.wait.drop (i + 2)).map u8v := by
                rw [List.map_drop, List.take_of_length_le]
                simp; omega
              have := Own.upd (.tail .head) (hw.perm (List.perm_middle (l₁ := [_, _, _, _])).symm) (fun r h => Own.cut (lo := i + 2) (hi := wn) (by omega) (Nat.le_refl _) h)
              rw [e1] at this
              rw [hc1]
              exact this)) ?_
            refine H.region ?_
            refine Ops.quiet (Qt.load_agg rfl (tk rfl) rfl (by repeat (first | exact List.Mem.head _ | apply List.Mem.tail)) (by rfl) (by rfl)) rfl ?_
            refine Ops.eff (Ef.call (fok fab_all rfl Tryd.func31 rfl) rfl (spec_rone w0 l _ (by omega))) rfl ?_
            rintro _ _ ⟨rfl, rfl⟩
            refine Ops.quiet (Qt.move rfl) rfl ?_
            refine Ops.quiet (Qt.extract rfl rfl) rfl ?_
            refine Ops.quiet (Qt.extract rfl rfl) rfl ?_
            refine Ops.quiet (Qt.extract rfl rfl) rfl ?_
            refine Ops.quiet (Qt.extract rfl rfl) rfl ?_
            refine Ops.quiet (Qt.assign rfl) rfl ?_
            refine Ops.quiet (Qt.assign rfl) rfl ?_
            refine Ops.quiet (Qt.assign rfl) rfl ?_
            refine Ops.quiet (Qt.assign rfl) rfl ?_
            refine Ops.nil ?_
            refine H.then_normal ?_
            refine H.seq ?_
            refine H.seq ?_
            refine H.open_refc fun st cd wA wn wc sA sn sc cA cn cc hsc ⟨wl1, wl2, wl3⟩ ⟨sl1, sl2, sl3⟩ ⟨cl1, cl2, cl3⟩ => ?_
            refine H.region ?_
            refine Ops.quiet (Qt.move rfl) rfl ?_
            refine Ops.quiet (Qt.not rfl) rfl ?_
            refine Ops.quiet (Qt.move rfl) rfl ?_
            refine Ops.guard rfl rfl rfl rfl (fun g87 => ?_) (fun g87 => ?_)
            · have g87' := g87
              try simp only [decide_eq_true_eq, decide_eq_false_iff_not, beq_iff_eq, beq_eq_false_iff_ne, bne_iff_ne, ne_eq, Bool.not_eq_true', Bool.not_eq_false', bne_eq_false_iff_eq, Bool.not_eq_eq_eq_not, Bool.not_true, Bool.not_false] at g87'
              refine Ops.quiet (Qt.move rfl) rfl ?_
              refine Ops.guard_yes rfl rfl rfl rfl g87 ?_
              refine Ops.quiet (Qt.nilCheck rfl) rfl ?_
              refine Ops.guard_yes rfl rfl rfl rfl g87 ?_
              refine Ops.quiet (Qt.fieldAddr rfl (tk rfl) rfl) rfl ?_
              refine Ops.guard_yes rfl rfl rfl rfl g87 ?_
              refine Ops.quiet (Qt.load rfl (tk rfl) rfl (by repeat (first | exact List.Mem.head _ | apply List.Mem.tail)) (by rfl)) rfl ?_
              refine Ops.guard_yes rfl rfl rfl rfl g87 ?_
              refine Ops.quiet (Qt.neq rfl rfl) rfl ?_
              refine Ops.guard_yes rfl rfl rfl rfl g87 ?_
              refine Ops.quiet (Qt.move rfl) rfl ?_
              refine Ops.guard rfl rfl rfl rfl (fun g93 => ?_) (fun g93 => ?_)
              · have g93' := g93
                try simp only [decide_eq_true_eq, decide_eq_false_iff_not, beq_iff_eq, beq_eq_false_iff_ne, bne_iff_ne, ne_eq, Bool.not_eq_true', Bool.not_eq_false', bne_eq_false_iff_eq, Bool.not_eq_eq_eq_not, Bool.not_true, Bool.not_false] at g93'
                refine Ops.quiet (Qt.move rfl) rfl ?_
                refine Ops.guard_yes rfl rfl rfl rfl g93 ?_
                refine Ops.quiet (Qt.nilCheck rfl) rfl ?_
                refine Ops.guard_yes rfl rfl rfl rfl g93 ?_
                refine Ops.quiet (Qt.fieldAddr rfl (tk rfl) rfl) rfl ?_
                refine Ops.guard_yes rfl rfl rfl rfl g93 ?_
                refine Ops.quiet (Qt.load rfl (tk rfl) rfl (by repeat (first | exact List.Mem.head _ | apply List.Mem.tail)) (by rfl)) rfl ?_
                refine Ops.guard_yes rfl rfl rfl rfl g93 ?_
                refine Ops.quiet (Qt.move rfl) rfl ?_
                refine Ops.guard_yes rfl rfl rfl rfl g93 ?_
                refine Ops.quiet (Qt.neq rfl rfl) rfl ?_
                refine Ops.guard_yes rfl rfl rfl rfl g87 ?_
                refine Ops.quiet (Qt.pick_t rfl rfl g93) rfl ?_
                refine Ops.quiet (Qt.pick_f rfl rfl g87) rfl ?_
                refine Ops.nil ?_
                refine H.then_normal ?_
                refine H.cond rfl (fun h101 => ?_) (fun h101 => ?_)
                · try simp only [decide_eq_true_eq, decide_eq_false_iff_not, beq_iff_eq, beq_eq_false_iff_ne, bne_iff_ne, ne_eq, Bool.not_eq_true', Bool.not_eq_false', bne_eq_false_iff_eq, Bool.not_eq_eq_eq_not, Bool.not_true, Bool.not_false] at h101
                  have hcd := (hsc hc1o).2
                  have hf : replyF c1.rcode c1.rlines (splitL l) = ⟨0, [], 0, false, 2⟩ := by
                    unfold replyF
                    rw [if_pos (.inr (by unfold codeOf at hcd; split at hcd; exact absurd hcd g93'; exact ⟨by omega, by rw [← hcd, ← oneL_eq (by simpa using g87')]; exact h101⟩))]
                  have hfe : Cl.feed1 c1 l = Cl.lost (c1.put ⟨0, [], 0, false, 2⟩) := by unfold Cl.feed1; rw [hf]; rfl
                  have hR2 : R = Cl.lost (c1.put ⟨0, [], 0, false, 2⟩) := by
                    rw [← hrun', hfe, fdRun_over]
                    rw [hlost (c1.put ⟨0, [], 0, false, 2⟩) hc1o]; rfl
                  refine H.seq ?_
                  refine H.region ?_
                  refine Ops.quiet (Qt.move rfl) rfl ?_
                  refine H.conv (fun w hw => refc_mk c1 (a := a) hsc hw) ?_
                  refine Ops.eff (Ef.call (fok fab_all rfl Tryd.func13 rfl) rfl (spec_rlost w0 b a c1 _)) rfl ?_
                  rintro _ _ ⟨rfl, rfl⟩
                  refine Ops.nil ?_
                  refine H.then_normal ?_
                  refine H.ret ?_
                  refine H.then_ret ?_
                  refine H.blk_ret ?_
                  refine H.then_ret ?_
                  refine H.then_ret ?_
                  refine H.blk_ret ?_
                  refine (H.ends_to (cs' := refc b a R :: fr) rfl (ResAll.nil) (fun w hw => ?_) ?_)
                  · rw [hR2]
                    exact refc_over (X := c1.lost) (by rw [hlost c1 hc1o, hlost (c1.put _) hc1o]; rfl) (by rw [hlost c1 hc1o, hlost (c1.put _) hc1o]; rfl) (by rw [hlost c1 hc1o, hlost (c1.put _) hc1o]; rfl) (by rw [hlost c1 hc1o, hlost (c1.put _) hc1o]; rfl) (by rw [hlost c1 hc1o, hlost (c1.put _) hc1o]; rfl) (by rw [hlost c1 hc1o]; rfl) (by rw [hlost (c1.put _) hc1o]; rfl) (hw.sub (by repeat (first | exact List.Sublist.refl _ | exact List.nil_sublist _ | apply List.Sublist.cons_cons | apply List.Sublist.cons)))
                  · exact ⟨rfl, rfl⟩
                · try simp only [decide_eq_true_eq, decide_eq_false_iff_not, beq_iff_eq, beq_eq_false_iff_ne, bne_iff_ne, ne_eq, Bool.not_eq_true', Bool.not_eq_false', bne_eq_false_iff_eq, Bool.not_eq_eq_eq_not, Bool.not_true, Bool.not_false] at h101
                  refine H.skip ?_
                  refine H.then_normal ?_
                  refine H.seq ?_
                  have hok1 : (oneL l).ok = true := by simpa using g87'
                  have heq := oneL_eq hok1
                  have hn2 := split_ok (by rw [← oneL_ok]; exact hok1)
                  have hcd := (hsc hc1o).2
                  have hnd : ¬ ((splitL l).ok = false ∨ (0 < c1.rlines.length ∧ c1.rcode ≠ (splitL l).n)) := by
                    rw [← oneL_ok, hok1]
                    intro h
                    rcases h with h | h
                    · exact Bool.noConfusion h
                    · unfold codeOf at hcd
                      rw [if_neg (by omega)] at hcd
                      exact h.2 (by rw [← hcd, ← heq]; exact h101)
                  refine H.region ?_
                  refine Ops.quiet (Qt.move rfl) rfl ?_
                  refine Ops.quiet (Qt.move rfl) rfl ?_
                  refine Ops.quiet (Qt.nilCheck rfl) rfl ?_
                  refine Ops.quiet (Qt.fieldAddr rfl (tk rfl) rfl) rfl ?_
                  refine Ops.eff (Ef.store rfl rfl (tk rfl) rfl rfl (by repeat (first | exact ones_nil | refine ones_cons rfl ?_)) (by repeat (first | exact Upd.head | apply Upd.tail)) (by rfl)) rfl ?_
                  rintro _ _ rfl
                  refine Ops.nil ?_
                  refine H.then_normal ?_
                  refine H.seq ?_
                  refine H.region ?_
                  refine Ops.quiet (Qt.move rfl) rfl ?_
                  refine Ops.quiet (Qt.not rfl) rfl ?_
                  refine Ops.nil ?_
                  refine H.then_normal ?_
                  refine H.cond rfl (fun h109 => ?_) (fun h109 => ?_)
                  · try simp only [decide_eq_true_eq, decide_eq_false_iff_not, beq_iff_eq, beq_eq_false_iff_ne, bne_iff_ne, ne_eq, Bool.not_eq_true', Bool.not_eq_false', bne_eq_false_iff_eq, Bool.not_eq_eq_eq_not, Bool.not_true, Bool.not_false] at h109
                    have hm : (splitL l).more = false := by rw [← heq]; simpa using h109
                    have hfe : Cl.feed1 c1 l = Cl.take (c1.put ⟨0, [], (oneL l).n, true, 0⟩) (oneL l).n := by
                      have hf : replyF c1.rcode c1.rlines (splitL l) = ⟨0, [], (oneL l).n, true, 0⟩ := by
                        unfold replyF
                        rw [if_neg hnd, if_neg (by rw [hm]; simp), heq]
                      unfold Cl.feed1; rw [hf]; rfl
                    have hs := Cl.take_same (c1.put ⟨0, [], (oneL l).n, true, 0⟩) (oneL l).n
                    have hs1 := hs.wait
                    have hs3 := hs.out
                    have hs1' : (Cl.take (c1.put ⟨0, [], (oneL l).n, true, 0⟩) (oneL l).n).wait.length = c1.wait.length := by rw [hs1]; rfl
                    have hs3' : (Cl.take (c1.put ⟨0, [], (oneL l).n, true, 0⟩) (oneL l).n).out.length ≤ c1.out.length + 1 := hs3
                    have hs2' : (Cl.take (c1.put ⟨0, [], (oneL l).n, true, 0⟩) (oneL l).n).rlines.length = 0 := by rw [hs.rlines]; rfl
                    have hs4 : (Cl.take (c1.put ⟨0, [], (oneL l).n, true, 0⟩) (oneL l).n).targets = T := by rw [hs.targets]; exact ht1
                    have hs5 : (Cl.take (c1.put ⟨0, [], (oneL l).n, true, 0⟩) (oneL l).n).body = stuffB body ++ [46, 13, 10] := by rw [hs.body]; exact hb1
                    rw [hfe] at hrun'
                    refine H.seq ?_
                    refine H.region ?_
                    refine Ops.quiet (Qt.move rfl) rfl ?_
                    refine Ops.quiet (Qt.nilCheck rfl) rfl ?_
                    refine Ops.quiet (Qt.fieldAddr rfl (tk rfl) rfl) rfl ?_
                    refine Ops.eff (Ef.store rfl rfl (tk rfl) rfl rfl (by repeat (first | exact ones_nil | refine ones_cons rfl ?_)) (by repeat (first | exact Upd.head | apply Upd.tail)) (by rfl)) rfl ?_
                    rintro _ _ rfl
                    refine Ops.nil ?_
                    refine H.then_normal ?_
                    refine H.region ?_
                    refine Ops.quiet (Qt.move rfl) rfl ?_
                    refine Ops.quiet (Qt.move rfl) rfl ?_
                    refine H.conv (fun w hw => refc_mk (c1.put ⟨0, [], (oneL l).n, true, 0⟩) (a := a) (fun _ => ⟨(hsc hc1o).1, rfl⟩) hw) ?_
                    refine Ops.eff (Ef.call (fok fab_all rfl Tryd.func32 rfl) rfl (spec_rtake w0 b a (c1.put ⟨0, [], (oneL l).n, true, 0⟩) (oneL l).n body _ (Cl.put_inv hc1i _) hc1o (by show c1.out.length ≤ _; rw [ho2]; omega) (by show Reads w0 _ _ _ _ (c1.targets.map str); rw [ht1]; repeat (first | assumption | exact Reads.of_head | apply Reads.tail)) (by repeat (first | assumption | exact Reads.of_head | apply Reads.tail)) hb1 hbs)) rfl ?_
                    rintro _ _ ⟨rfl, rfl⟩
                    refine Ops.nil ?_
                    refine H.blk_normal ?_
                    refine H.then_normal ?_
                    refine H.region ?_
                    refine Ops.quiet (Qt.move rfl) rfl ?_
                    refine Ops.quiet (Qt.add64 rfl rfl (by omega) (by omega)) rfl ?_
                    refine Ops.quiet (Qt.assign rfl) rfl ?_
                    refine Ops.nil ?_
                    refine H.then_normal ?_
                    refine H.round (Cl.take (c1.put ⟨0, [], (oneL l).n, true, 0⟩) (oneL l).n, 0) ⟨Cl.take_inv (Cl.put_inv hc1i _) hc1o _, by simp only [ho2] at hs3' ⊢; omega, by simp only []; omega, ⟨k', by simp only []; omega, hrun'⟩, Nat.zero_le _, Lib.NoOcc.zero _ _, hs4, fun _ => hs5, .inl hs2'⟩ (by simp only []; omega) (by repeat (first | exact trivial | refine ⟨rfl, ?_⟩)) (fun w hw => hw.sub (by repeat (first | exact List.Sublist.refl _ | exact List.nil_sublist _ | apply List.Sublist.cons_cons | apply List.Sublist.cons)))
                  · try simp only [decide_eq_true_eq, decide_eq_false_iff_not, beq_iff_eq, beq_eq_false_iff_ne, bne_iff_ne, ne_eq, Bool.not_eq_true', Bool.not_eq_false', bne_eq_false_iff_eq, Bool.not_eq_eq_eq_not, Bool.not_true, Bool.not_false] at h109
                    have hm : (splitL l).more = true := by rw [← heq]; simpa using h109
                    have hfe : Cl.feed1 c1 l = c1.put ⟨(oneL l).n, c1.rlines ++ [(oneL l).text], 0, false, 0⟩ := by
                      unfold Cl.feed1 replyF
                      rw [if_neg hnd, if_pos hm, ← heq]; rfl
                    rw [hfe] at hrun'
                    refine H.skip ?_
                    refine H.blk_normal ?_
                    refine H.then_normal ?_
                    refine H.region ?_
                    refine Ops.quiet (Qt.move rfl) rfl ?_
                    refine Ops.quiet (Qt.add64 rfl rfl (by omega) (by omega)) rfl ?_
                    refine Ops.quiet (Qt.assign rfl) rfl ?_
                    refine Ops.nil ?_
                    refine H.then_normal ?_
                    refine H.conv (fun w hw => refc_mk (c1.put ⟨(oneL l).n, c1.rlines ++ [(oneL l).text], 0, false, 0⟩) (a := a) (fun _ => ⟨(hsc hc1o).1, by show _ = if (c1.rlines ++ [(oneL l).text]).length = 0 then 0 else (oneL l).n; rw [if_neg (by simp)]⟩) hw) ?_
                    refine H.round (c1.put ⟨(oneL l).n, c1.rlines ++ [(oneL l).text], 0, false, 0⟩, 0) ⟨Cl.put_inv hc1i _, by show c1.out.length + c1.wait.length ≤ _; rw [ho2]; omega, by show (c1.rlines ++ [_]).length + c1.wait.length ≤ _; rw [List.length_append, hr2]; simp only [List.length_cons, List.length_nil]; omega, ⟨k', by show c1.wait.length < k'; omega, hrun'⟩, Nat.zero_le _, Lib.NoOcc.zero _ _, ht1, fun _ => hb1, .inr (by show (oneL l).n ≠ 0; rw [heq]; omega)⟩ (by show 2 * c1.wait.length - 0 < _; simp only []; omega) (by repeat (first | exact trivial | refine ⟨rfl, ?_⟩)) (fun w hw => hw.sub (by repeat (first | exact List.Sublist.refl _ | exact List.nil_sublist _ | apply List.Sublist.cons_cons | apply List.Sublist.cons)))
              · have g93' := g93
                try simp only [decide_eq_true_eq, decide_eq_false_iff_not, beq_iff_eq, beq_eq_false_iff_ne, bne_iff_ne, ne_eq, Bool.not_eq_true', Bool.not_eq_false', bne_eq_false_iff_eq, Bool.not_eq_eq_eq_not, Bool.not_true, Bool.not_false] at g93'
                refine Ops.guard_no rfl rfl rfl rfl g93 ?_
                refine Ops.guard_no rfl rfl rfl rfl g93 ?_
                refine Ops.guard_no rfl rfl rfl rfl g93 ?_
                refine Ops.guard_no rfl rfl rfl rfl g93 ?_
                refine Ops.guard_no rfl rfl rfl rfl g93 ?_
                refine Ops.guard_yes rfl rfl rfl rfl g87 ?_
                refine Ops.quiet (Qt.pick_f rfl rfl g93) rfl ?_
                refine Ops.quiet (Qt.pick_f rfl rfl g87) rfl ?_
                refine Ops.nil ?_
                refine H.then_normal ?_
                refine H.cond_false rfl (by rfl) ?_
                refine H.skip ?_
                refine H.then_normal ?_
                refine H.seq ?_
                have hok1 : (oneL l).ok = true := by simpa using g87'
                have heq := oneL_eq hok1
                have hn2 := split_ok (by rw [← oneL_ok]; exact hok1)
                have hcd := (hsc hc1o).2
                have hnd : ¬ ((splitL l).ok = false ∨ (0 < c1.rlines.length ∧ c1.rcode ≠ (splitL l).n)) := by
                  rw [← oneL_ok, hok1]
                  intro h
                  rcases h with h | h
                  · exact Bool.noConfusion h
                  · unfold codeOf at hcd
                    rw [if_neg (by omega), hr3] at hcd
                    rw [hr2] at h
                    rcases hrc with h3 | h3
                    · omega
                    · exact h3 (by rw [← hcd]; exact g93')
                refine H.region ?_
                refine Ops.quiet (Qt.move rfl) rfl ?_
                refine Ops.quiet (Qt.move rfl) rfl ?_
                refine Ops.quiet (Qt.nilCheck rfl) rfl ?_
                refine Ops.quiet (Qt.fieldAddr rfl (tk rfl) rfl) rfl ?_
                refine Ops.eff (Ef.store rfl rfl (tk rfl) rfl rfl (by repeat (first | exact ones_nil | refine ones_cons rfl ?_)) (by repeat (first | exact Upd.head | apply Upd.tail)) (by rfl)) rfl ?_
                rintro _ _ rfl
                refine Ops.nil ?_
                refine H.then_normal ?_
                refine H.seq ?_
                refine H.region ?_
                refine Ops.quiet (Qt.move rfl) rfl ?_
                refine Ops.quiet (Qt.not rfl) rfl ?_
                refine Ops.nil ?_
                refine H.then_normal ?_
                refine H.cond rfl (fun h109 => ?_) (fun h109 => ?_)
                · try simp only [decide_eq_true_eq, decide_eq_false_iff_not, beq_iff_eq, beq_eq_false_iff_ne, bne_iff_ne, ne_eq, Bool.not_eq_true', Bool.not_eq_false', bne_eq_false_iff_eq, Bool.not_eq_eq_eq_not, Bool.not_true, Bool.not_false] at h109
                  have hm : (splitL l).more = false := by rw [← heq]; simpa using h109
                  have hfe : Cl.feed1 c1 l = Cl.take (c1.put ⟨0, [], (oneL l).n, true, 0⟩) (oneL l).n := by
                    have hf : replyF c1.rcode c1.rlines (splitL l) = ⟨0, [], (oneL l).n, true, 0⟩ := by
                      unfold replyF
                      rw [if_neg hnd, if_neg (by rw [hm]; simp), heq]
                    unfold Cl.feed1; rw [hf]; rfl
                  have hs := Cl.take_same (c1.put ⟨0, [], (oneL l).n, true, 0⟩) (oneL l).n
                  have hs1 := hs.wait
                  have hs3 := hs.out
                  have hs1' : (Cl.take (c1.put ⟨0, [], (oneL l).n, true, 0⟩) (oneL l).n).wait.length = c1.wait.length := by rw [hs1]; rfl
                  have hs3' : (Cl.take (c1.put ⟨0, [], (oneL l).n, true, 0⟩) (oneL l).n).out.length ≤ c1.out.length + 1 := hs3
                  have hs2' : (Cl.take (c1.put ⟨0, [], (oneL l).n, true, 0⟩) (oneL l).n).rlines.length = 0 := by rw [hs.rlines]; rfl
                  have hs4 : (Cl.take (c1.put ⟨0, [], (oneL l).n, true, 0⟩) (oneL l).n).targets = T := by rw [hs.targets]; exact ht1
                  have hs5 : (Cl.take (c1.put ⟨0, [], (oneL l).n, true, 0⟩) (oneL l).n).body = stuffB body ++ [46, 13, 10] := by rw [hs.body]; exact hb1
                  rw [hfe] at hrun'
                  refine H.seq ?_
                  refine H.region ?_
                  refine Ops.quiet (Qt.move rfl) rfl ?_
                  refine Ops.quiet (Qt.nilCheck rfl) rfl ?_
                  refine Ops.quiet (Qt.fieldAddr rfl (tk rfl) rfl) rfl ?_
                  refine Ops.eff (Ef.store rfl rfl (tk rfl) rfl rfl (by repeat (first | exact ones_nil | refine ones_cons rfl ?_)) (by repeat (first | exact Upd.head | apply Upd.tail)) (by rfl)) rfl ?_
                  rintro _ _ rfl
                  refine Ops.nil ?_
                  refine H.then_normal ?_
                  refine H.region ?_
                  refine Ops.quiet (Qt.move rfl) rfl ?_
                  refine Ops.quiet (Qt.move rfl) rfl ?_
                  refine H.conv (fun w hw => refc_mk (c1.put ⟨0, [], (oneL l).n, true, 0⟩) (a := a) (fun _ => ⟨(hsc hc1o).1, rfl⟩) hw) ?_
                  refine Ops.eff (Ef.call (fok fab_all rfl Tryd.func32 rfl) rfl (spec_rtake w0 b a (c1.put ⟨0, [], (oneL l).n, true, 0⟩) (oneL l).n body _ (Cl.put_inv hc1i _) hc1o (by show c1.out.length ≤ _; rw [ho2]; omega) (by show Reads w0 _ _ _ _ (c1.targets.map str); rw [ht1]; repeat (first | assumption | exact Reads.of_head | apply Reads.tail)) (by repeat (first | assumption | exact Reads.of_head | apply Reads.tail)) hb1 hbs)) rfl ?_
                  rintro _ _ ⟨rfl, rfl⟩
                  refine Ops.nil ?_
                  refine H.blk_normal ?_
                  refine H.then_normal ?_
                  refine H.region ?_
                  refine Ops.quiet (Qt.move rfl) rfl ?_
                  refine Ops.quiet (Qt.add64 rfl rfl (by omega) (by omega)) rfl ?_
                  refine Ops.quiet (Qt.assign rfl) rfl ?_
                  refine Ops.nil ?_
                  refine H.then_normal ?_
                  refine H.round (Cl.take (c1.put ⟨0, [], (oneL l).n, true, 0⟩) (oneL l).n, 0) ⟨Cl.take_inv (Cl.put_inv hc1i _) hc1o _, by simp only [ho2] at hs3' ⊢; omega, by simp only []; omega, ⟨k', by simp only []; omega, hrun'⟩, Nat.zero_le _, Lib.NoOcc.zero _ _, hs4, fun _ => hs5, .inl hs2'⟩ (by simp only []; omega) (by repeat (first | exact trivial | refine ⟨rfl, ?_⟩)) (fun w hw => hw.sub (by repeat (first | exact List.Sublist.refl _ | exact List.nil_sublist _ | apply List.Sublist.cons_cons | apply List.Sublist.cons)))
                · try simp only [decide_eq_true_eq, decide_eq_false_iff_not, beq_iff_eq, beq_eq_false_iff_ne, bne_iff_ne, ne_eq, Bool.not_eq_true', Bool.not_eq_false', bne_eq_false_iff_eq, Bool.not_eq_eq_eq_not, Bool.not_true, Bool.not_false] at h109
                  have hm : (splitL l).more = true := by rw [← heq]; simpa using h109
                  have hfe : Cl.feed1 c1 l = c1.put ⟨(oneL l).n, c1.rlines ++ [(oneL l).text], 0, false, 0⟩ := by
                    unfold Cl.feed1 replyF
                    rw [if_neg hnd, if_pos hm, ← heq]; rfl
                  rw [hfe] at hrun'
                  refine H.skip ?_
                  refine H.blk_normal ?_
                  refine H.then_normal ?_
                  refine H.region ?_
                  refine Ops.quiet (Qt.move rfl) rfl ?_
                  refine Ops.quiet (Qt.add64 rfl rfl (by omega) (by omega)) rfl ?_
                  refine Ops.quiet (Qt.assign rfl) rfl ?_
                  refine Ops.nil ?_
                  refine H.then_normal ?_
                  refine H.conv (fun w hw => refc_mk (c1.put ⟨(oneL l).n, c1.rlines ++ [(oneL l).text], 0, false, 0⟩) (a := a) (fun _ => ⟨(hsc hc1o).1, by show _ = if (c1.rlines ++ [(oneL l).text]).length = 0 then 0 else (oneL l).n; rw [if_neg (by simp)]⟩) hw) ?_
                  refine H.round (c1.put ⟨(oneL l).n, c1.rlines ++ [(oneL l).text], 0, false, 0⟩, 0) ⟨Cl.put_inv hc1i _, by show c1.out.length + c1.wait.length ≤ _; rw [ho2]; omega, by show (c1.rlines ++ [_]).length + c1.wait.length ≤ _; rw [List.length_append, hr2]; simp only [List.length_cons, List.length_nil]; omega, ⟨k', by show c1.wait.length < k'; omega, hrun'⟩, Nat.zero_le _, Lib.NoOcc.zero _ _, ht1, fun _ => hb1, .inr (by show (oneL l).n ≠ 0; rw [heq]; omega)⟩ (by show 2 * c1.wait.length - 0 < _; simp only []; omega) (by repeat (first | exact trivial | refine ⟨rfl, ?_⟩)) (fun w hw => hw.sub (by repeat (first | exact List.Sublist.refl _ | exact List.nil_sublist _ | apply List.Sublist.cons_cons | apply List.Sublist.cons)))
            · have g87' := g87
              try simp only [decide_eq_true_eq, decide_eq_false_iff_not, beq_iff_eq, beq_eq_false_iff_ne, bne_iff_ne, ne_eq, Bool.not_eq_true', Bool.not_eq_false', bne_eq_false_iff_eq, Bool.not_eq_eq_eq_not, Bool.not_true, Bool.not_false] at g87'
              refine Ops.guard_no rfl rfl rfl rfl g87 ?_
              refine Ops.guard_no rfl rfl rfl rfl g87 ?_
              refine Ops.guard_no rfl rfl rfl rfl g87 ?_
              refine Ops.guard_no rfl rfl rfl rfl g87 ?_
              refine Ops.guard_no rfl rfl rfl rfl g87 ?_
              refine Ops.guard_un rfl rfl rfl rfl ?_
              refine Ops.guard_un rfl rfl rfl rfl ?_
              refine Ops.guard_un rfl rfl rfl rfl ?_
              refine Ops.guard_un rfl rfl rfl rfl ?_
              refine Ops.guard_un rfl rfl rfl rfl ?_
              refine Ops.guard_un rfl rfl rfl rfl ?_
              refine Ops.guard_no rfl rfl rfl rfl g87 ?_
              refine Ops.quiet (Qt.pick_t rfl rfl g87) rfl ?_
              refine Ops.nil ?_
              refine H.then_normal ?_
              refine H.cond_true rfl (by rfl) ?_
              refine H.seq ?_
              have hcd := (hsc hc1o).2
              have hf : replyF c1.rcode c1.rlines (splitL l) = ⟨0, [], 0, false, 2⟩ := by
                unfold replyF
                rw [if_pos (.inl (by rw [← oneL_ok]; exact g87'))]
              have hfe : Cl.feed1 c1 l = Cl.lost (c1.put ⟨0, [], 0, false, 2⟩) := by unfold Cl.feed1; rw [hf]; rfl
              have hR2 : R = Cl.lost (c1.put ⟨0, [], 0, false, 2⟩) := by
                rw [← hrun', hfe, fdRun_over]
                rw [hlost (c1.put ⟨0, [], 0, false, 2⟩) hc1o]; rfl
              refine H.region ?_
              refine Ops.quiet (Qt.move rfl) rfl ?_
              refine H.conv (fun w hw => refc_mk c1 (a := a) hsc hw) ?_
              refine Ops.eff (Ef.call (fok fab_all rfl Tryd.func13 rfl) rfl (spec_rlost w0 b a c1 _)) rfl ?_
              rintro _ _ ⟨rfl, rfl⟩
              refine Ops.nil ?_
              refine H.then_normal ?_
              refine H.ret ?_
              refine H.then_ret ?_
              refine H.blk_ret ?_
              refine H.then_ret ?_
              refine H.then_ret ?_
              refine H.blk_ret ?_
              refine (H.ends_to (cs' := refc b a R :: fr) rfl (ResAll.nil) (fun w hw => ?_) ?_)
              · rw [hR2]
                exact refc_over (X := c1.lost) (by rw [hlost c1 hc1o, hlost (c1.put _) hc1o]; rfl) (by rw [hlost c1 hc1o, hlost (c1.put _) hc1o]; rfl) (by rw [hlost c1 hc1o, hlost (c1.put _) hc1o]; rfl) (by rw [hlost c1 hc1o, hlost (c1.put _) hc1o]; rfl) (by rw [hlost c1 hc1o, hlost (c1.put _) hc1o]; rfl) (by rw [hlost c1 hc1o]; rfl) (by rw [hlost (c1.put _) hc1o]; rfl) (hw.sub (by repeat (first | exact List.Sublist.refl _ | exact List.nil_sublist _ | apply List.Sublist.cons_cons | apply List.Sublist.cons)))
              · exact ⟨rfl, rfl⟩
        · have g50' := g50
          try simp only [decide_eq_true_eq, decide_eq_false_iff_not, beq_iff_eq, beq_eq_false_iff_ne, bne_iff_ne, ne_eq, Bool.not_eq_true', Bool.not_eq_false', bne_eq_false_iff_eq, Bool.not_eq_eq_eq_not, Bool.not_true, Bool.not_false] at g50'
          refine Ops.guard_no rfl rfl rfl rfl g50 ?_
          refine Ops.guard_no rfl rfl rfl rfl g50 ?_
          refine Ops.guard_no rfl rfl rfl rfl g50 ?_
          refine Ops.guard_no rfl rfl rfl rfl g50 ?_
          refine Ops.guard_no rfl rfl rfl rfl g50 ?_
          refine Ops.guard_no rfl rfl rfl rfl g50 ?_
          refine Ops.guard_no rfl rfl rfl rfl g50 ?_
          refine Ops.guard_no rfl rfl rfl rfl g50 ?_
          refine Ops.quiet (Qt.pick_t rfl rfl g50) rfl ?_
          refine Ops.nil ?_
          refine H.then_normal ?_
          refine H.cond_true rfl (by rfl) ?_
          refine H.exit ?_
          refine H.then_exit ?_
          refine H.blk_hit ?_
          refine H.then_normal ?_
          refine H.region ?_
          refine Ops.quiet (Qt.move rfl) rfl ?_
          refine Ops.quiet (Qt.add64 rfl rfl (by omega) (by omega)) rfl ?_
          refine Ops.quiet (Qt.assign rfl) rfl ?_
          refine Ops.nil ?_
          refine H.then_normal ?_
          have ho1 : Lib.occAt c.wait [13, 10] i = false := by
            rw [hocc, show (((c.wait.getD i 0).toNat : Int) == 13) = false from beq_eq_false_iff_ne.2 g50', Bool.false_and]
          refine H.conv (fun w hw => refc_mk c (a := a) hsc hw) ?_
          refine H.round (c, i + 1) ⟨hI, ho, hrl, ⟨k, hk, hrun⟩, by simp only []; omega, fun j hj => ?_, htg, hbd, hrc⟩ (by simp only []; omega) (by repeat (first | exact trivial | refine ⟨rfl, ?_⟩)) (fun w hw => hw)
          rcases Nat.lt_succ_iff_lt_or_eq.1 hj with hj | rfl
          · exact hno j hj
          · exact ho1
      · try simp only [decide_eq_true_eq, decide_eq_false_iff_not, beq_iff_eq, beq_eq_false_iff_ne, bne_iff_ne, ne_eq, Bool.not_eq_true', Bool.not_eq_false', bne_eq_false_iff_eq, Bool.not_eq_eq_eq_not, Bool.not_true, Bool.not_false] at h39
        refine H.exit ?_
        refine H.then_exit ?_
        refine H.then_exit ?_
        refine H.blk_hit ?_
        have e1 : R = c := by rw [← hrun, fdRun_over (by simpa using h39)]
        rw [e1]
        refine H.conv (fun w hw => refc_mk c (a := a) hsc hw) (H.ends_n rfl (ResAll.nil) ?_)
        exact ⟨rfl, rfl⟩
    · have g33' := g33
      try simp only [decide_eq_true_eq, decide_eq_false_iff_not, beq_iff_eq, beq_eq_false_iff_ne, bne_iff_ne, ne_eq, Bool.not_eq_true', Bool.not_eq_false', bne_eq_false_iff_eq, Bool.not_eq_eq_eq_not, Bool.not_true, Bool.not_false] at g33'
      refine Ops.guard_no rfl rfl rfl rfl g33 ?_
      refine Ops.guard_no rfl rfl rfl rfl g33 ?_
      refine Ops.guard_no rfl rfl rfl rfl g33 ?_
      refine Ops.guard_no rfl rfl rfl rfl g33 ?_
      refine Ops.quiet (Qt.pick_f rfl rfl g33) rfl ?_
      refine Ops.nil ?_
      refine H.then_normal ?_
      refine H.cond_false rfl (by rfl) ?_
      refine H.exit ?_
      refine H.then_exit ?_
      refine H.then_exit ?_
      refine H.blk_hit ?_
      have hidx : Lib.index c.wait [13, 10] = -1 := Lib.index_past (by simp) hno (by simp only [List.length_cons, List.length_nil]; omega)
      have e1 : R = c := by
        rw [← hrun]
        cases k with
        | zero => rfl
        | succ k =>
          unfold fdRun
          rw [crlf_none hidx]
          split <;> rfl
      rw [e1]
      refine H.conv (fun w hw => refc_mk c (a := a) hsc hw) (H.ends_n rfl (ResAll.nil) ?_)
      exact ⟨rfl, rfl⟩
end Go.Proofs.YtimldpbddkhedaaDoor
