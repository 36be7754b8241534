/- The session with the next hop: bytes come. -/
import Derived.Test.YtimldpbddkhedaaDoorSnd
import Derived.Test.YtimldpbddkhedaaDoorRpl
namespace Go.Proofs.YtimldpbddkhedaaDoor
open Go Go.RowKit
set_option maxRecDepth 100000
set_option linter.unusedVariables false
set_option linter.unusedSimpArgs false
attribute [local irreducible] Go.wpList Go.Code.wp Go.Exit.then Go.Exit.inBlock Go.Exit.noGoto Ends blk osl oblk LoopI Own Spec
structure Inv (c : Cl) : Prop where
  ok : ClOk c
  t0 : c.over = false → 0 < c.targets.length
  s5 : c.over = false → c.state ≤ 5
  at3 : c.over = false → c.state ≤ 3 → c.at_ < c.targets.length
  a0 : c.over = false → c.state ≤ 2 → c.at_ = 0
def Cl.put (c : Cl) (f : Rf) : Cl := { c with rcode := f.code, rlines := f.lines }
def Cl.feed1 (c : Cl) (l : Ln) : Cl :=
  let f := replyF c.rcode c.rlines (splitL l)
  if f.err ≠ 0 then (c.put f).lost else if f.whole then (c.put f).take f.rc else c.put f
def crlf (w : Bs) : Option Nat := if Lib.index w [13, 10] = -1 then none else some (Lib.index w [13, 10]).toNat
def fdRun : Nat → Cl → Cl
  | 0, c => c
  | k + 1, c => if c.over then c else match crlf c.wait with
    | none => c
    | some i => fdRun k ({ c with wait := c.wait.drop (i + 2) }.feed1 (lineOf (c.wait.take i) 512))
theorem fdRun_over {c : Cl} (h : c.over = true) : ∀ k, fdRun k c = c
  | 0 => rfl
  | k + 1 => by simp [fdRun, h]
theorem crlf_none {w : Bs} (h : Lib.index w [13, 10] = -1) : crlf w = none := by simp [crlf, h]
theorem crlf_cases (w : Bs) : Lib.index w [13, 10] = -1 ∨ ∃ i : Nat, Lib.index w [13, 10] = i ∧ i + 2 ≤ w.length ∧ crlf w = some i := by
  by_cases h : Lib.index w [13, 10] = -1
  · exact .inl h
  · right
    have h1 := Lib.index_ge w [13, 10]
    have h2 := Lib.index_room w [13, 10] (by omega)
    refine ⟨(Lib.index w [13, 10]).toNat, by omega, ?_, by simp [crlf, h]⟩
    simp only [List.length_cons, List.length_nil] at h2
    omega
theorem endC_length (code : Int) (l : List Int) : (endC code l).length = l.length := by simp [endC]
theorem Cl.say_inv {c : Cl} (h : Inv c) (s : Bs) : Inv (c.say s) := ⟨⟨h.1.1, h.1.2, h.1.3, h.1.4, h.1.5, h.1.6, h.1.7, h.1.8, h.1.9, h.1.10⟩, h.2, h.3, h.4, h.5⟩
theorem Cl.fin_inv {c : Cl} (h : ClOk c) (code : Int) : Inv (c.fin code) :=
  ⟨⟨h.1, h.2, h.3, h.4, h.5, (endC_length _ _).trans h.6, h.7, h.8, h.9, h.10⟩, fun e => Bool.noConfusion e, fun e => Bool.noConfusion e, fun e => Bool.noConfusion e, fun e => Bool.noConfusion e⟩
theorem Cl.quit_inv {c : Cl} (h : ClOk c) (code : Int) : Inv (c.quit code) := Cl.say_inv (Cl.fin_inv h code) _
theorem Cl.lost_inv {c : Cl} (h : Inv c) : Inv c.lost := by
  unfold Cl.lost
  split
  · exact h
  · exact Cl.fin_inv (c := { c with out := [] }) ⟨h.1.1, h.1.2, h.1.3, h.1.4, h.1.5, h.1.6, h.1.7, h.1.8, h.1.9, h.1.10⟩ _
/-- What the small steps leave alone. -/
structure Same (c d : Cl) : Prop where
  wait : d.wait = c.wait
  rlines : d.rlines = c.rlines
  rcode : d.rcode = c.rcode
  targets : d.targets = c.targets
  body : d.body = c.body
  out : d.out.length ≤ c.out.length + 1
theorem Cl.next_same (c : Cl) : Same c c.next ∧ c.next.over = c.over ∧ c.next.state = c.state + 1 ∧ c.next.at_ = c.at_ ∧ c.next.host = c.host ∧ c.next.frm = c.frm ∧ c.next.codes = c.codes := by
  unfold Cl.next
  simp only []
  split
  · exact ⟨⟨rfl, rfl, rfl, rfl, rfl, by simp [Cl.say]⟩, rfl, rfl, rfl, rfl, rfl, rfl⟩
  split
  · exact ⟨⟨rfl, rfl, rfl, rfl, rfl, by simp [Cl.say]⟩, rfl, rfl, rfl, rfl, rfl, rfl⟩
  split
  · exact ⟨⟨rfl, rfl, rfl, rfl, rfl, by simp [Cl.say]⟩, rfl, rfl, rfl, rfl, rfl, rfl⟩
  split
  · exact ⟨⟨rfl, rfl, rfl, rfl, rfl, by simp [Cl.say]⟩, rfl, rfl, rfl, rfl, rfl, rfl⟩
  split
  · exact ⟨⟨rfl, rfl, rfl, rfl, rfl, by simp⟩, rfl, rfl, rfl, rfl, rfl, rfl⟩
  · exact ⟨⟨rfl, rfl, rfl, rfl, rfl, by simp⟩, rfl, rfl, rfl, rfl, rfl, rfl⟩
theorem Cl.next_inv {c : Cl} (h : ClOk c) (ht : 0 < c.targets.length) (h4 : c.state ≤ 4) (ha : c.state ≤ 2 → c.at_ < c.targets.length) (hz : c.state ≤ 1 → c.at_ = 0) : Inv c.next := by
  obtain ⟨⟨e1, e2, e3, e4, e5, e6⟩, e7, e8, e9, e10, e11, e12⟩ := c.next_same
  refine ⟨⟨by rw [e10]; exact h.1, by rw [e11]; exact h.2, by rw [e5]; exact h.3, by rw [e4]; exact h.4, by rw [e4]; exact h.5, by rw [e12, e4]; exact h.6, ?_, ?_, by rw [e9]; exact h.9, by rw [e9, e4]; exact h.10⟩, ?_, ?_, ?_, ?_⟩
  · rw [e8]; have := h.7; omega
  · rw [e8]; omega
  · intro _; rw [e4]; exact ht
  · intro _; rw [e8]; omega
  · intro _ h3; rw [e9, e4]; rw [e8] at h3; exact ha (by omega)
  · intro _ h3; rw [e9]; rw [e8] at h3; exact hz (by omega)
theorem Cl.take_same (c : Cl) (code : Int) : Same c (c.take code) := by
  have hq : ∀ (c : Cl) code, Same c (c.quit code) := fun c code => ⟨rfl, rfl, rfl, rfl, rfl, by simp [Cl.quit, Cl.fin, Cl.say]⟩
  unfold Cl.take
  split
  · unfold Cl.target
    have h1 : Same c (c.t1 code) ∧ (c.t1 code).out.length = c.out.length := by
      unfold Cl.t1
      split <;> exact ⟨⟨rfl, rfl, rfl, rfl, rfl, Nat.le_succ _⟩, rfl⟩
    obtain ⟨⟨a1, a2, a3, a4, a5, a6⟩, a7⟩ := h1
    have h2 : Same (c.t1 code) (c.t1 code).t2 := by
      unfold Cl.t2
      split
      · exact ⟨rfl, rfl, rfl, rfl, rfl, by simp [Cl.say]⟩
      · split
        · exact (Cl.next_same _).1
        · exact hq _ _
    obtain ⟨b1, b2, b3, b4, b5, b6⟩ := h2
    exact ⟨b1.trans a1, b2.trans a2, b3.trans a3, b4.trans a4, b5.trans a5, by omega⟩
  · split
    · exact hq _ _
    · split
      · exact hq _ _
      · exact (Cl.next_same _).1
theorem Cl.take_inv {c : Cl} (h : Inv c) (ho : c.over = false) (code : Int) : Inv (c.take code) := by
  have ht := h.t0 ho
  have h5 := h.s5 ho
  have ha := h.at3 ho
  unfold Cl.take
  split
  · rename_i h3
    have ha := ha (by omega)
    have hok := Cl.t1_ok h.ok ha code
    obtain ⟨e1, e2, e3, e4, e5, e6, e7, e8⟩ := c.t1_same code
    unfold Cl.target Cl.t2
    split
    · rename_i hl
      refine Cl.say_inv ⟨hok, fun _ => by rw [e3]; exact ht, fun _ => by rw [e6]; omega, fun _ _ => hl, fun _ h2 => by rw [e6] at h2; omega⟩ _
    · split
      · exact Cl.next_inv hok (by rw [e3]; exact ht) (by rw [e6]; omega) (by rw [e6]; omega) (by rw [e6]; omega)
      · exact Cl.quit_inv hok _
  · split
    · exact Cl.quit_inv h.ok _
    · split
      · exact Cl.quit_inv h.ok _
      · exact Cl.next_inv h.ok ht (by omega) (fun h2 => ha (by omega)) (fun h1 => h.a0 ho (by omega))
theorem Cl.put_inv {c : Cl} (h : Inv c) (f : Rf) : Inv (c.put f) := ⟨⟨h.1.1, h.1.2, h.1.3, h.1.4, h.1.5, h.1.6, h.1.7, h.1.8, h.1.9, h.1.10⟩, h.2, h.3, h.4, h.5⟩
theorem Cl.wait_inv {c : Cl} (h : Inv c) (w : Bs) : Inv { c with wait := w } := ⟨⟨h.1.1, h.1.2, h.1.3, h.1.4, h.1.5, h.1.6, h.1.7, h.1.8, h.1.9, h.1.10⟩, h.2, h.3, h.4, h.5⟩
theorem replyF_lines (code : Int) (ls : List Bs) (s : Sp) : (replyF code ls s).lines.length ≤ ls.length + 1 := by
  unfold replyF
  split
  · simp
  split
  · simp
  · simp
theorem lineOf_len (b : Bs) (m : Int) : (lineOf b m).text.length ≤ b.length := by
  unfold lineOf
  split
  · simp
  split
  · simp
  · simp
theorem pack7 {w0 w : World} {b6 R b4 L B o1 o2 o3 : SProp} {fr : List SProp} (h : Own w0 w (b6 :: R :: b4 :: L :: B :: o1 :: o2 :: o3 :: fr)) : Own w0 w (B :: o1 :: o2 :: o3 :: L :: R :: b6 :: fr) := by
  have h1 : Own w0 w ([b6, R, L] ++ ([B, o1, o2, o3] ++ fr)) := Own.sub (by repeat (first | exact List.Sublist.refl _ | exact List.nil_sublist _ | apply List.Sublist.cons_cons | apply List.Sublist.cons)) h
  have h2 : Own w0 w ([B, o1, o2, o3] ++ ([b6, R, L] ++ fr)) := h1.perm (List.perm_append_comm_assoc _ _ _)
  exact h2.perm (List.Perm.append_left _ (List.Perm.append_right fr (List.reverse_perm [b6, R, L]).symm))
def Cl.feed (c : Cl) (x : Bs) : Cl := if c.over then c else fdRun ((c.wait ++ x).length + 1) { c with wait := c.wait ++ x }
structure Fd (R c : Cl) : Prop where
  inv : Inv c
  o : c.out.length + c.wait.length ≤ 1000000
  r : c.rlines.length + c.wait.length ≤ 1000000
  run : ∃ k, c.wait.length < k ∧ fdRun k c = R
theorem spec_feed (w0 : World) (hG : Gl w0) (b : Nat) (c : Cl) (x : Bs) {A : Option Addr} {n cap : Nat} (fr : List SProp) (hr : Reads w0 fr A n cap (x.map u8v)) (hI : Inv c) (ho : c.out.length + (c.wait.length + x.length) ≤ 1000000) (hrl : c.rlines.length + (c.wait.length + x.length) ≤ 1000000) :
    Spec Tryd.prog w0 10 [ptr b, .slice A n cap] (client b c :: fr) (fun v cs' => v = unit ∧ cs' = client b (c.feed x) :: fr) := by
  refine Spec.of_body Tryd.func10 rfl Tryd.ntmps10 rfl ?_
  refine H.open_client fun tA tn tc lp rp oA on oc cA cn cc ⟨tl1, tl2, tl3⟩ ⟨ol1, ol2, ol3⟩ ⟨cl1, cl2, cl3⟩ => ?_
  refine H.scope ?_
  refine H.seq ?_
  refine H.seq ?_
  refine H.region ?_
  refine Ops.quiet (Qt.move rfl) rfl ?_
  refine Ops.quiet (Qt.ptr_eq_nil rfl (tk rfl)) rfl ?_
  refine Ops.quiet (Qt.move rfl) rfl ?_
  refine Ops.guard rfl rfl rfl rfl (fun g11 => ?_) (fun g11 => ?_)
  · have g11' := g11
    try simp only [decide_eq_true_eq, decide_eq_false_iff_not, beq_iff_eq, beq_eq_false_iff_ne, bne_iff_ne, ne_eq, Bool.not_eq_true', Bool.not_eq_false', bne_eq_false_iff_eq, Bool.not_eq_eq_eq_not, Bool.not_true, Bool.not_false] at g11'
    refine Ops.quiet (Qt.move rfl) rfl ?_
    refine Ops.guard_yes rfl rfl rfl rfl g11 ?_
    refine Ops.quiet (Qt.nilCheck rfl) rfl ?_
    refine Ops.guard_yes rfl rfl rfl rfl g11 ?_
    refine Ops.quiet (Qt.fieldAddr rfl (tk rfl) rfl) rfl ?_
    refine Ops.guard_yes rfl rfl rfl rfl g11 ?_
    refine Ops.quiet (Qt.load rfl (tk rfl) rfl (by repeat (first | exact List.Mem.head _ | apply List.Mem.tail)) (by rfl)) rfl ?_
    refine Ops.quiet (Qt.pick_f rfl rfl g11) rfl ?_
    refine Ops.nil ?_
    refine H.then_normal ?_
    refine H.cond rfl (fun h16 => ?_) (fun h16 => ?_)
    · try simp only [decide_eq_true_eq, decide_eq_false_iff_not, beq_iff_eq, beq_eq_false_iff_ne, bne_iff_ne, ne_eq, Bool.not_eq_true', Bool.not_eq_false', bne_eq_false_iff_eq, Bool.not_eq_eq_eq_not, Bool.not_true, Bool.not_false] at h16
      refine H.ret ?_
      refine H.then_ret ?_
      refine H.scope_ret ?_
      refine H.conv (fun w hw => client_mk c hw) (H.ends rfl (ResAll.nil) ?_)
      exact ⟨rfl, by rw [Cl.feed, if_pos h16]⟩
    · try simp only [decide_eq_true_eq, decide_eq_false_iff_not, beq_iff_eq, beq_eq_false_iff_ne, bne_iff_ne, ne_eq, Bool.not_eq_true', Bool.not_eq_false', bne_eq_false_iff_eq, Bool.not_eq_eq_eq_not, Bool.not_true, Bool.not_false] at h16
      refine H.skip ?_
      refine H.then_normal ?_
      refine H.seq ?_
      refine H.fr4 ?_
      refine H.region ?_
      refine Ops.quiet (Qt.move rfl) rfl ?_
      refine Ops.quiet (Qt.nilCheck rfl) rfl ?_
      refine Ops.quiet (Qt.fieldAddr rfl (tk rfl) rfl) rfl ?_
      refine Ops.quiet (Qt.load rfl (tk rfl) rfl (by repeat (first | exact List.Mem.head _ | apply List.Mem.tail)) (by rfl)) rfl ?_
      refine Ops.quiet (Qt.move rfl) rfl ?_
      refine Ops.eff (Ef.call (fok fab_all rfl Tryd.func26 rfl) rfl (spec_lfeed w0 lp c.wait x _ (by repeat (first | assumption | exact Reads.of_head | apply Reads.tail)) (by omega))) rfl ?_
      rintro _ _ ⟨rfl, rfl⟩
      refine Ops.nil ?_
      refine H.then_normal ?_
      refine H.seq ?_
      refine H.label ?_
      refine H.then_normal ?_
      refine H.block ?_
      refine H.loop (X := Cl) (fun _ => [(0, ptr b)]) (fun c => client b c :: fr) (Fd (c.feed x)) (fun c => c.wait.length) { c with wait := c.wait ++ x } ⟨Cl.wait_inv hI _, by simp only [List.length_append]; omega, by simp only [List.length_append]; omega, _, Nat.lt_succ_self _, by rw [Cl.feed, h16]; rfl⟩ (by repeat (first | exact trivial | refine ⟨rfl, ?_⟩)) (fun w hw => client_mk { c with wait := c.wait ++ x } (hw.perm (List.perm_middle (l₁ := [_, _, _, _])).symm)) ?_
      generalize hR : c.feed x = R
      clear hI ho hrl tl1 tl2 tl3 ol1 ol2 ol3 cl1 cl2 cl3
      intro c ⟨hI, ho, hrl, k, hk, hrun⟩
      refine H.open_client fun tA tn tc lp rp oA on oc cA cn cc ⟨tl1, tl2, tl3⟩ ⟨ol1, ol2, ol3⟩ ⟨cl1, cl2, cl3⟩ => ?_
      refine H.seq ?_
      refine H.seq ?_
      refine H.region ?_
      refine Ops.quiet (Qt.move rfl) rfl ?_
      refine Ops.quiet (Qt.nilCheck rfl) rfl ?_
      refine Ops.quiet (Qt.fieldAddr rfl (tk rfl) rfl) rfl ?_
      refine Ops.quiet (Qt.load rfl (tk rfl) rfl (by repeat (first | exact List.Mem.head _ | apply List.Mem.tail)) (by rfl)) rfl ?_
      refine Ops.quiet (Qt.not rfl) rfl ?_
      refine Ops.nil ?_
      refine H.then_normal ?_
      refine H.cond rfl (fun h27 => ?_) (fun h27 => ?_)
      · try simp only [decide_eq_true_eq, decide_eq_false_iff_not, beq_iff_eq, beq_eq_false_iff_ne, bne_iff_ne, ne_eq, Bool.not_eq_true', Bool.not_eq_false', bne_eq_false_iff_eq, Bool.not_eq_eq_eq_not, Bool.not_true, Bool.not_false] at h27
        refine H.skip ?_
        refine H.then_normal ?_
        refine H.block ?_
        refine H.seq ?_
        refine H.fr4 ?_
        rcases crlf_cases c.wait with hi | ⟨i, hi, him, hci⟩
        · refine H.region ?_
          refine Ops.quiet (Qt.move rfl) rfl ?_
          refine Ops.quiet (Qt.nilCheck rfl) rfl ?_
          refine Ops.quiet (Qt.fieldAddr rfl (tk rfl) rfl) rfl ?_
          refine Ops.quiet (Qt.load rfl (tk rfl) rfl (by repeat (first | exact List.Mem.head _ | apply List.Mem.tail)) (by rfl)) rfl ?_
          refine Ops.eff (Ef.call (fok fab_all rfl Tryd.func27 rfl) rfl (spec_lnext_miss w0 hG lp c.wait 512 _ (by omega) hi)) rfl ?_
          rintro _ _ ⟨rfl, rfl⟩
          refine Ops.quiet (Qt.move rfl) rfl ?_
          refine Ops.quiet (Qt.extract rfl rfl) rfl ?_
          refine Ops.quiet (Qt.extract rfl rfl) rfl ?_
          refine Ops.eff (Ef.alloc (zk rfl)) rfl ?_
          rintro _ _ ⟨b4, rfl, rfl⟩
          refine Ops.eff (Ef.store rfl rfl (tk rfl) rfl rfl (by repeat (first | exact ones_nil | refine ones_cons rfl ?_)) (by repeat (first | exact Upd.head | apply Upd.tail)) (by rfl)) rfl ?_
          rintro _ _ rfl
          refine Ops.quiet (Qt.assign rfl) rfl ?_
          refine Ops.nil ?_
          refine H.then_normal ?_
          refine H.seq ?_
          refine H.seq ?_
          refine H.region ?_
          refine Ops.quiet (Qt.move rfl) rfl ?_
          refine Ops.quiet (Qt.not rfl) rfl ?_
          refine Ops.nil ?_
          refine H.then_normal ?_
          refine H.cond_true rfl (by rfl) ?_
          refine H.exit ?_
          refine H.then_exit ?_
          refine H.blk_miss rfl ?_
          refine H.then_exit ?_
          refine H.blk_hit ?_
          refine H.scope_normal ?_
          have e1 : R = c := by
            rw [← hrun]
            cases k with
            | zero => rfl
            | succ k => simp [fdRun, h27, crlf_none hi]
          rw [e1]
          refine H.conv (fun w hw => client_mk c ((hw.tail).perm (List.perm_middle (l₁ := [_, _, _, _])).symm)) (H.ends_n rfl (ResAll.nil) ?_)
          exact ⟨rfl, rfl⟩
        · obtain ⟨l, hl⟩ : ∃ l, l = lineOf (c.wait.take i) 512 := ⟨_, rfl⟩
          have hlen := lineOf_len (c.wait.take i) 512
          rw [← hl, List.length_take] at hlen
          have sp := fun fr => spec_lnext_hit w0 hG lp c.wait 512 fr (by omega) hi him
          rw [← hl] at sp
          obtain ⟨c2, hc2⟩ : ∃ c2, c2 = Cl.put { c with wait := c.wait.drop (i + 2) } (replyF c.rcode c.rlines (splitL l)) := ⟨_, rfl⟩
          have hrl2 := replyF_lines c.rcode c.rlines (splitL l)
          have sq := fun fr => spec_rfeed w0 rp c.rcode c.rlines l fr (by omega) (by omega)
          obtain ⟨f, hf⟩ : ∃ f, f = replyF c.rcode c.rlines (splitL l) := ⟨_, rfl⟩
          obtain ⟨k', rfl⟩ : ∃ k', k = k' + 1 := ⟨k - 1, by omega⟩
          have hfeed : Cl.feed1 { c with wait := c.wait.drop (i + 2) } l = if f.err ≠ 0 then c2.lost else if f.whole = true then c2.take f.rc else c2 := by rw [hc2, hf]; rfl
          have hrun' : fdRun k' (Cl.feed1 { c with wait := c.wait.drop (i + 2) } l) = R := by rw [← hrun]; simp [fdRun, h27, hci, hl]
          rw [hfeed] at hrun'
          rw [← hf] at sq hrl2 hc2
          have hc2i : Inv c2 := by rw [hc2]; exact Cl.put_inv (Cl.wait_inv hI _) f
          have hc2o : c2.over = false := by rw [hc2]; exact h27
          have hw2 : c2.wait.length = c.wait.length - (i + 2) := by rw [hc2]; exact List.length_drop
          have ho2 : c2.out.length = c.out.length := by rw [hc2]; rfl
          have hr2 : c2.rlines.length ≤ c.rlines.length + 1 := by rw [hc2]; exact hrl2
          refine H.region ?_
          refine Ops.quiet (Qt.move rfl) rfl ?_
          refine Ops.quiet (Qt.nilCheck rfl) rfl ?_
          refine Ops.quiet (Qt.fieldAddr rfl (tk rfl) rfl) rfl ?_
          refine Ops.quiet (Qt.load rfl (tk rfl) rfl (by repeat (first | exact List.Mem.head _ | apply List.Mem.tail)) (by rfl)) rfl ?_
          refine Ops.eff (Ef.call (fok fab_all rfl Tryd.func27 rfl) rfl (sp _)) rfl ?_
          rintro _ _ ⟨rfl, rfl⟩
          refine Ops.quiet (Qt.move rfl) rfl ?_
          refine Ops.quiet (Qt.extract rfl rfl) rfl ?_
          refine Ops.quiet (Qt.extract rfl rfl) rfl ?_
          refine Ops.eff (Ef.alloc (zk rfl)) rfl ?_
          rintro _ _ ⟨b4, rfl, rfl⟩
          refine Ops.eff (Ef.store rfl rfl (tk rfl) rfl rfl (by repeat (first | exact ones_nil | refine ones_cons rfl ?_)) (by repeat (first | exact Upd.head | apply Upd.tail)) (by rfl)) rfl ?_
          rintro _ _ rfl
          refine Ops.quiet (Qt.assign rfl) rfl ?_
          refine Ops.nil ?_
          refine H.then_normal ?_
          refine H.seq ?_
          refine H.seq ?_
          refine H.region ?_
          refine Ops.quiet (Qt.move rfl) rfl ?_
          refine Ops.quiet (Qt.not rfl) rfl ?_
          refine Ops.nil ?_
          refine H.then_normal ?_
          refine H.cond_false rfl (by rfl) ?_
          refine H.skip ?_
          refine H.then_normal ?_
          refine H.seq ?_
          refine H.fr6 ?_
          refine H.drawn ([blk b4 [num l.kind, str l.text] 57, blk b [str c.host, str c.frm, .slice tA tn tc, str c.body, .pointer (some ⟨lp, 0, none⟩), .pointer (some ⟨rp, 0, none⟩), .slice oA on oc, num c.state, num c.at_, .slice cA cn cc, bol c.over] 51]) 13 mixed (by kernel_rfl) ?_
          refine Hd.quiet 0 (by kernel_rfl) rfl rfl (by kernel_rfl) rfl (Qt.move rfl) ?_
          refine Hd.quiet 1 (by kernel_rfl) rfl rfl (by kernel_rfl) rfl (Qt.nilCheck rfl) ?_
          refine Hd.quiet 2 (by kernel_rfl) rfl rfl (by kernel_rfl) rfl (Qt.fieldAddr rfl (tk rfl) rfl) ?_
          refine Hd.quiet 3 (by kernel_rfl) rfl rfl (by kernel_rfl) rfl (Qt.load rfl (tk rfl) rfl (by repeat (first | exact List.Mem.head _ | apply List.Mem.tail)) (by rfl)) ?_
          refine Hd.quiet 4 (by kernel_rfl) rfl rfl (by kernel_rfl) rfl (Qt.load_agg rfl (tk rfl) rfl (by repeat (first | exact List.Mem.head _ | apply List.Mem.tail)) (by rfl) (by rfl)) ?_
          refine Hd.eff2 5 10 (by intro w hw; first | exact hw | exact Own.sub (by repeat (first | exact List.Sublist.refl _ | exact List.nil_sublist _ | apply List.Sublist.cons_cons | apply List.Sublist.cons)) hw) rfl rfl (by kernel_rfl) (by kernel_rfl) (by kernel_rfl) rfl rfl (Ef.call (fok fab_all rfl Tryd.func28 rfl) rfl (sq _)) (Ef.alloc (zk rfl)) ?_ ?_
          · rintro _ _ ⟨rA9, rn9, rc9, rfl, rfl⟩
            refine Hd.quiet 6 (by kernel_rfl) rfl rfl (by kernel_rfl) rfl (Qt.move rfl) ?_
            refine Hd.quiet 7 (by kernel_rfl) rfl rfl (by kernel_rfl) rfl (Qt.extract rfl rfl) ?_
            refine Hd.quiet 8 (by kernel_rfl) rfl rfl (by kernel_rfl) rfl (Qt.extract rfl rfl) ?_
            refine Hd.quiet 9 (by kernel_rfl) rfl rfl (by kernel_rfl) rfl (Qt.extract rfl rfl) ?_
            refine Hd.eff 10 (by intro w hw; first | exact hw | exact Own.sub (by repeat (first | exact List.Sublist.refl _ | exact List.nil_sublist _ | apply List.Sublist.cons_cons | apply List.Sublist.cons)) hw) rfl rfl (by kernel_rfl) rfl (Ef.alloc (zk rfl)) ?_
            rintro _ _ ⟨b6, rfl, rfl⟩
            refine Hd.eff 11 (by intro w hw; first | exact hw | exact Own.sub (by repeat (first | exact List.Sublist.refl _ | exact List.nil_sublist _ | apply List.Sublist.cons_cons | apply List.Sublist.cons)) hw) rfl rfl (by kernel_rfl) rfl (Ef.store rfl rfl (tk rfl) rfl rfl (by repeat (first | exact ones_nil | refine ones_cons rfl ?_)) (by repeat (first | exact Upd.head | apply Upd.tail)) (by rfl)) ?_
            rintro _ _ rfl
            refine Hd.quiet 12 (by kernel_rfl) rfl rfl (by kernel_rfl) rfl (Qt.assign rfl) ?_
            refine Hd.tail (by intro w hw; first | exact hw | exact Own.sub (by repeat (first | exact List.Sublist.refl _ | exact List.nil_sublist _ | apply List.Sublist.cons_cons | apply List.Sublist.cons)) hw) (by kernel_rfl) rfl ?_
            refine Ops.quiet (Qt.assign rfl) rfl ?_
            refine Ops.nil ?_
            refine H.then_normal ?_
            refine H.block ?_
            refine H.seq ?_
            refine H.region ?_
            refine Ops.quiet (Qt.move rfl) rfl ?_
            refine Ops.quiet (Qt.neq rfl rfl) rfl ?_
            refine Ops.quiet (Qt.assign rfl) rfl ?_
            refine Ops.nil ?_
            refine H.then_normal ?_
            refine H.cond rfl (fun h48 => ?_) (fun h48 => ?_)
            · try simp only [decide_eq_true_eq, decide_eq_false_iff_not, beq_iff_eq, beq_eq_false_iff_ne, bne_iff_ne, ne_eq, Bool.not_eq_true', Bool.not_eq_false', bne_eq_false_iff_eq, Bool.not_eq_eq_eq_not, Bool.not_true, Bool.not_false] at h48
              refine H.seq ?_
              refine H.conv (fun w hw => client_mk c2 (by rw [hc2]; exact pack7 hw)) ?_
              refine H.region ?_
              refine Ops.quiet (Qt.move rfl) rfl ?_
              refine Ops.eff (Ef.call (fok fab_all rfl Tryd.func12 rfl) rfl (spec_lost w0 b c2 _)) rfl ?_
              rintro _ _ ⟨rfl, rfl⟩
              refine Ops.nil ?_
              refine H.then_normal ?_
              refine H.exit ?_
              refine H.blk_miss rfl ?_
              refine H.blk_miss rfl ?_
              refine H.then_exit ?_
              refine H.blk_hit ?_
              refine H.scope_normal ?_
              rw [if_pos h48] at hrun'
              have e1 : R = c2.lost := by
                rw [← hrun', fdRun_over]
                unfold Cl.lost; rw [hc2o]; rfl
              rw [e1]
              refine (H.ends_n_to (cs' := client b c2.lost :: fr) rfl (ResAll.nil) (fun w hw => ?_) ?_)
              · exact hw.sub (by repeat (first | exact List.Sublist.refl _ | exact List.nil_sublist _ | apply List.Sublist.cons_cons | apply List.Sublist.cons))
              · exact ⟨rfl, rfl⟩
            · try simp only [decide_eq_true_eq, decide_eq_false_iff_not, beq_iff_eq, beq_eq_false_iff_ne, bne_iff_ne, ne_eq, Bool.not_eq_true', Bool.not_eq_false', bne_eq_false_iff_eq, Bool.not_eq_eq_eq_not, Bool.not_true, Bool.not_false] at h48
              rw [if_neg (by intro h; exact h h48)] at hrun'
              refine H.seq ?_
              refine H.region ?_
              refine Ops.quiet (Qt.move rfl) rfl ?_
              refine Ops.quiet (Qt.assign rfl) rfl ?_
              refine Ops.nil ?_
              refine H.then_normal ?_
              refine H.cond rfl (fun h53 => ?_) (fun h53 => ?_)
              · try simp only [decide_eq_true_eq, decide_eq_false_iff_not, beq_iff_eq, beq_eq_false_iff_ne, bne_iff_ne, ne_eq, Bool.not_eq_true', Bool.not_eq_false', bne_eq_false_iff_eq, Bool.not_eq_eq_eq_not, Bool.not_true, Bool.not_false] at h53
                rw [if_pos h53] at hrun'
                have hs := Cl.take_same c2 f.rc
                have hs1 := hs.wait
                have hs2 := hs.rlines
                have hs3 := hs.out
                refine H.conv (fun w hw => client_mk c2 (by rw [hc2]; exact pack7 hw)) ?_
                refine H.region ?_
                refine Ops.quiet (Qt.move rfl) rfl ?_
                refine Ops.quiet (Qt.fieldAddr rfl (tk rfl) rfl) rfl ?_
                refine Ops.quiet (Qt.load rfl (tk rfl) rfl (by repeat (first | exact List.Mem.head _ | apply List.Mem.tail)) (by rfl)) rfl ?_
                refine Ops.eff (Ef.call (fok fab_all rfl Tryd.func29 rfl) rfl (spec_take w0 b c2 f.rc _ hc2i.ok (by omega) (fun h3 => hc2i.at3 hc2o (by omega)) (hc2i.t0 hc2o))) rfl ?_
                rintro _ _ ⟨rfl, rfl⟩
                refine Ops.nil ?_
                refine H.blk_normal ?_
                refine H.blk_normal ?_
                refine H.then_normal ?_
                refine H.round (c2.take f.rc) ⟨Cl.take_inv hc2i hc2o _, by rw [hs1]; omega, by rw [hs1, hs2]; omega, k', by rw [hs1]; omega, hrun'⟩ (by rw [hs1]; omega) (by repeat (first | exact trivial | refine ⟨rfl, ?_⟩)) (fun w hw => hw.sub (by repeat (first | exact List.Sublist.refl _ | exact List.nil_sublist _ | apply List.Sublist.cons_cons | apply List.Sublist.cons)))
              · try simp only [decide_eq_true_eq, decide_eq_false_iff_not, beq_iff_eq, beq_eq_false_iff_ne, bne_iff_ne, ne_eq, Bool.not_eq_true', Bool.not_eq_false', bne_eq_false_iff_eq, Bool.not_eq_eq_eq_not, Bool.not_true, Bool.not_false] at h53
                rw [if_neg (by rw [h53]; simp)] at hrun'
                refine H.skip ?_
                refine H.blk_normal ?_
                refine H.blk_normal ?_
                refine H.then_normal ?_
                refine H.conv (fun w hw => client_mk c2 (by rw [hc2]; exact pack7 hw)) ?_
                refine H.round c2 ⟨hc2i, by omega, by omega, k', by omega, hrun'⟩ (by omega) (by repeat (first | exact trivial | refine ⟨rfl, ?_⟩)) (fun w hw => hw.sub (by repeat (first | exact List.Sublist.refl _ | exact List.nil_sublist _ | apply List.Sublist.cons_cons | apply List.Sublist.cons)))
          · rintro _ _ ⟨b6, rfl, rfl⟩
            refine Hd.eff 5 (by intro w hw; first | exact hw | exact Own.sub (by repeat (first | exact List.Sublist.refl _ | exact List.nil_sublist _ | apply List.Sublist.cons_cons | apply List.Sublist.cons)) hw) rfl rfl (by kernel_rfl) rfl (Ef.call (fok fab_all rfl Tryd.func28 rfl) rfl (Spec.conv (fun w hw => hw.perm (.swap _ _ _)) (sq _))) ?_
            rintro _ _ ⟨rA9, rn9, rc9, rfl, rfl⟩
            refine Hd.quiet 6 (by kernel_rfl) rfl rfl (by kernel_rfl) rfl (Qt.move rfl) ?_
            refine Hd.quiet 7 (by kernel_rfl) rfl rfl (by kernel_rfl) rfl (Qt.extract rfl rfl) ?_
            refine Hd.quiet 8 (by kernel_rfl) rfl rfl (by kernel_rfl) rfl (Qt.extract rfl rfl) ?_
            refine Hd.quiet 9 (by kernel_rfl) rfl rfl (by kernel_rfl) rfl (Qt.extract rfl rfl) ?_
            refine Hd.eff 11 (by intro w hw; first | exact hw | exact Own.sub (by repeat (first | exact List.Sublist.refl _ | exact List.nil_sublist _ | apply List.Sublist.cons_cons | apply List.Sublist.cons)) hw) rfl rfl (by kernel_rfl) rfl (Ef.store rfl rfl (tk rfl) rfl rfl (by repeat (first | exact ones_nil | refine ones_cons rfl ?_)) (by repeat (first | exact Upd.head | apply Upd.tail)) (by rfl)) ?_
            rintro _ _ rfl
            refine Hd.quiet 12 (by kernel_rfl) rfl rfl (by kernel_rfl) rfl (Qt.assign rfl) ?_
            refine Hd.tail (by intro w hw; first | exact hw | exact Own.sub (by repeat (first | exact List.Sublist.refl _ | exact List.nil_sublist _ | apply List.Sublist.cons_cons | apply List.Sublist.cons)) hw) (by kernel_rfl) rfl ?_
            refine Ops.quiet (Qt.assign rfl) rfl ?_
            refine Ops.nil ?_
            refine H.then_normal ?_
            refine H.block ?_
            refine H.seq ?_
            refine H.region ?_
            refine Ops.quiet (Qt.move rfl) rfl ?_
            refine Ops.quiet (Qt.neq rfl rfl) rfl ?_
            refine Ops.quiet (Qt.assign rfl) rfl ?_
            refine Ops.nil ?_
            refine H.then_normal ?_
            refine H.cond rfl (fun h48 => ?_) (fun h48 => ?_)
            · try simp only [decide_eq_true_eq, decide_eq_false_iff_not, beq_iff_eq, beq_eq_false_iff_ne, bne_iff_ne, ne_eq, Bool.not_eq_true', Bool.not_eq_false', bne_eq_false_iff_eq, Bool.not_eq_eq_eq_not, Bool.not_true, Bool.not_false] at h48
              refine H.seq ?_
              refine H.conv (fun w hw => client_mk c2 (by rw [hc2]; exact pack7 (hw.perm (.swap _ _ _)))) ?_
              refine H.region ?_
              refine Ops.quiet (Qt.move rfl) rfl ?_
              refine Ops.eff (Ef.call (fok fab_all rfl Tryd.func12 rfl) rfl (spec_lost w0 b c2 _)) rfl ?_
              rintro _ _ ⟨rfl, rfl⟩
              refine Ops.nil ?_
              refine H.then_normal ?_
              refine H.exit ?_
              refine H.blk_miss rfl ?_
              refine H.blk_miss rfl ?_
              refine H.then_exit ?_
              refine H.blk_hit ?_
              refine H.scope_normal ?_
              rw [if_pos h48] at hrun'
              have e1 : R = c2.lost := by
                rw [← hrun', fdRun_over]
                unfold Cl.lost; rw [hc2o]; rfl
              rw [e1]
              refine (H.ends_n_to (cs' := client b c2.lost :: fr) rfl (ResAll.nil) (fun w hw => ?_) ?_)
              · exact hw.sub (by repeat (first | exact List.Sublist.refl _ | exact List.nil_sublist _ | apply List.Sublist.cons_cons | apply List.Sublist.cons))
              · exact ⟨rfl, rfl⟩
            · try simp only [decide_eq_true_eq, decide_eq_false_iff_not, beq_iff_eq, beq_eq_false_iff_ne, bne_iff_ne, ne_eq, Bool.not_eq_true', Bool.not_eq_false', bne_eq_false_iff_eq, Bool.not_eq_eq_eq_not, Bool.not_true, Bool.not_false] at h48
              rw [if_neg (by intro h; exact h h48)] at hrun'
              refine H.seq ?_
              refine H.region ?_
              refine Ops.quiet (Qt.move rfl) rfl ?_
              refine Ops.quiet (Qt.assign rfl) rfl ?_
              refine Ops.nil ?_
              refine H.then_normal ?_
              refine H.cond rfl (fun h53 => ?_) (fun h53 => ?_)
              · try simp only [decide_eq_true_eq, decide_eq_false_iff_not, beq_iff_eq, beq_eq_false_iff_ne, bne_iff_ne, ne_eq, Bool.not_eq_true', Bool.not_eq_false', bne_eq_false_iff_eq, Bool.not_eq_eq_eq_not, Bool.not_true, Bool.not_false] at h53
                rw [if_pos h53] at hrun'
                have hs := Cl.take_same c2 f.rc
                have hs1 := hs.wait
                have hs2 := hs.rlines
                have hs3 := hs.out
                refine H.conv (fun w hw => client_mk c2 (by rw [hc2]; exact pack7 (hw.perm (.swap _ _ _)))) ?_
                refine H.region ?_
                refine Ops.quiet (Qt.move rfl) rfl ?_
                refine Ops.quiet (Qt.fieldAddr rfl (tk rfl) rfl) rfl ?_
                refine Ops.quiet (Qt.load rfl (tk rfl) rfl (by repeat (first | exact List.Mem.head _ | apply List.Mem.tail)) (by rfl)) rfl ?_
                refine Ops.eff (Ef.call (fok fab_all rfl Tryd.func29 rfl) rfl (spec_take w0 b c2 f.rc _ hc2i.ok (by omega) (fun h3 => hc2i.at3 hc2o (by omega)) (hc2i.t0 hc2o))) rfl ?_
                rintro _ _ ⟨rfl, rfl⟩
                refine Ops.nil ?_
                refine H.blk_normal ?_
                refine H.blk_normal ?_
                refine H.then_normal ?_
                refine H.round (c2.take f.rc) ⟨Cl.take_inv hc2i hc2o _, by rw [hs1]; omega, by rw [hs1, hs2]; omega, k', by rw [hs1]; omega, hrun'⟩ (by rw [hs1]; omega) (by repeat (first | exact trivial | refine ⟨rfl, ?_⟩)) (fun w hw => hw.sub (by repeat (first | exact List.Sublist.refl _ | exact List.nil_sublist _ | apply List.Sublist.cons_cons | apply List.Sublist.cons)))
              · try simp only [decide_eq_true_eq, decide_eq_false_iff_not, beq_iff_eq, beq_eq_false_iff_ne, bne_iff_ne, ne_eq, Bool.not_eq_true', Bool.not_eq_false', bne_eq_false_iff_eq, Bool.not_eq_eq_eq_not, Bool.not_true, Bool.not_false] at h53
                rw [if_neg (by rw [h53]; simp)] at hrun'
                refine H.skip ?_
                refine H.blk_normal ?_
                refine H.blk_normal ?_
                refine H.then_normal ?_
                refine H.conv (fun w hw => client_mk c2 (by rw [hc2]; exact pack7 (hw.perm (.swap _ _ _)))) ?_
                refine H.round c2 ⟨hc2i, by omega, by omega, k', by omega, hrun'⟩ (by omega) (by repeat (first | exact trivial | refine ⟨rfl, ?_⟩)) (fun w hw => hw.sub (by repeat (first | exact List.Sublist.refl _ | exact List.nil_sublist _ | apply List.Sublist.cons_cons | apply List.Sublist.cons)))
      · try simp only [decide_eq_true_eq, decide_eq_false_iff_not, beq_iff_eq, beq_eq_false_iff_ne, bne_iff_ne, ne_eq, Bool.not_eq_true', Bool.not_eq_false', bne_eq_false_iff_eq, Bool.not_eq_eq_eq_not, Bool.not_true, Bool.not_false] at h27
        refine H.exit ?_
        refine H.then_exit ?_
        refine H.then_exit ?_
        refine H.blk_hit ?_
        refine H.scope_normal ?_
        have e1 : R = c := by rw [← hrun, fdRun_over h27]
        rw [e1]
        refine H.conv (fun w hw => client_mk c hw) (H.ends_n rfl (ResAll.nil) ?_)
        exact ⟨rfl, rfl⟩
  · have g11' := g11
    try simp only [decide_eq_true_eq, decide_eq_false_iff_not, beq_iff_eq, beq_eq_false_iff_ne, bne_iff_ne, ne_eq, Bool.not_eq_true', Bool.not_eq_false', bne_eq_false_iff_eq, Bool.not_eq_eq_eq_not, Bool.not_true, Bool.not_false] at g11'
    exact Bool.noConfusion g11
end Go.Proofs.YtimldpbddkhedaaDoor
