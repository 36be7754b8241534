/- The reader of replies: what its functions do. -/
import Derived.Test.YtimldpbddkhedaaDoorRdr
namespace Go.Proofs.YtimldpbddkhedaaDoor
open Go Go.RowKit
set_option maxRecDepth 100000
set_option linter.unusedVariables false
set_option linter.unusedSimpArgs false
attribute [local irreducible] Go.wpList Go.Code.wp Go.Exit.then Go.Exit.inBlock Go.Exit.noGoto Ends blk osl oblk LoopI Own Spec
def codeOk (n : Int) : Bool := decide (200 ≤ n) && decide (n ≤ 599)
theorem spec_code (w0 : World) (n : Int) (cs : List SProp) : Spec Tryd.prog w0 58 [num n] cs (fun v cs' => v = bol (codeOk n) ∧ cs' = cs) := by
  refine Spec.of_body Tryd.func58 rfl Tryd.ntmps58 rfl ?_
  refine H.seq ?_
  refine H.region ?_
  refine Ops.quiet (Qt.assign rfl) rfl ?_
  refine Ops.nil ?_
  refine H.then_normal ?_
  refine H.seq ?_
  refine H.region ?_
  refine Ops.quiet (Qt.move rfl) rfl ?_
  refine Ops.quiet (Qt.geq rfl rfl) rfl ?_
  refine Ops.quiet (Qt.move rfl) rfl ?_
  refine Ops.guard rfl rfl rfl rfl (fun g5 => ?_) (fun g5 => ?_)
  · have g5' := g5
    try simp only [decide_eq_true_eq, decide_eq_false_iff_not, beq_iff_eq, beq_eq_false_iff_ne, bne_iff_ne, ne_eq, Bool.not_eq_true', Bool.not_eq_false', bne_eq_false_iff_eq, Bool.not_eq_eq_eq_not, Bool.not_true, Bool.not_false] at g5'
    refine Ops.quiet (Qt.move rfl) rfl ?_
    refine Ops.guard_yes rfl rfl rfl rfl g5 ?_
    refine Ops.quiet (Qt.leq rfl rfl) rfl ?_
    refine Ops.quiet (Qt.pick_t rfl rfl g5) rfl ?_
    refine Ops.quiet (Qt.assign rfl) rfl ?_
    refine Ops.nil ?_
    refine H.then_normal ?_
    refine H.ret ?_
    refine (H.ends rfl (.cons (.tmp rfl) .nil) ?_)
    exact ⟨by simp [retV, codeOk, *], rfl⟩
  · have g5' := g5
    try simp only [decide_eq_true_eq, decide_eq_false_iff_not, beq_iff_eq, beq_eq_false_iff_ne, bne_iff_ne, ne_eq, Bool.not_eq_true', Bool.not_eq_false', bne_eq_false_iff_eq, Bool.not_eq_eq_eq_not, Bool.not_true, Bool.not_false] at g5'
    refine Ops.guard_no rfl rfl rfl rfl g5 ?_
    refine Ops.quiet (Qt.pick_f rfl rfl g5) rfl ?_
    refine Ops.quiet (Qt.assign rfl) rfl ?_
    refine Ops.nil ?_
    refine H.then_normal ?_
    refine H.ret ?_
    refine (H.ends rfl (.cons (.tmp rfl) .nil) ?_)
    exact ⟨by simp [retV, codeOk, *], rfl⟩
def isDg (c : UInt8) : Bool := !(decide ((c.toNat : Int) < 48) || decide (57 < (c.toNat : Int)))
def dg (s : Bs) (k : Nat) : Int := ((s.getD k 0).toNat : Int) - 48
def code3 (s : Bs) : Int := (dg s 0 * 10 + dg s 1) * 10 + dg s 2
def digs (s : Bs) : Bool := isDg (s.getD 0 0) && isDg (s.getD 1 0) && isDg (s.getD 2 0)
structure Sp where
  n : Int
  more : Bool
  text : Bs
  ok : Bool
def splitL (l : Ln) : Sp :=
  if l.kind ≠ 1 ∨ l.text.length < 3 then ⟨0, false, [], false⟩
  else if digs l.text = false then ⟨0, false, [], false⟩
  else if l.text.length = 3 then ⟨code3 l.text, false, [], codeOk (code3 l.text)⟩
  else ⟨code3 l.text, ((l.text.getD 3 0).toNat : Int) == 45, l.text.drop 4, codeOk (code3 l.text) && (((l.text.getD 3 0).toNat : Int) == 32 || ((l.text.getD 3 0).toNat : Int) == 45)⟩
theorem isDg_range {c : UInt8} (h : isDg c = true) : 48 ≤ c.toNat ∧ c.toNat ≤ 57 := by
  simp [isDg] at h
  omega
theorem atoi3 (s : Bs) (h3 : 3 ≤ s.length) (hd : ∀ j, j < 3 → isDg (s.getD j 0) = true) : Lib.atoiAll (s.take 3) = .ok (code3 s) := by
  match s, h3 with
  | a :: b :: c :: r, _ =>
    have ha := isDg_range (hd 0 (by omega))
    have hb := isDg_range (hd 1 (by omega))
    have hc := isDg_range (hd 2 (by omega))
    simp only [List.getD_cons_zero, List.getD_cons_succ] at ha hb hc
    have e : (a :: b :: c :: r).take 3 = [a, b, c] := rfl
    rw [e]
    have h1 : ¬ (a.toNat = 43 ∨ a.toNat = 45) := by omega
    have h2 : ¬ (a.toNat = 45) := by omega
    simp only [Lib.atoiAll, if_neg h1]
    simp only [Lib.parseMag, Lib.parseUint10, List.cons_ne_nil, if_false, ha, hb, hc, and_self, if_true]
    rw [if_neg (by omega), if_neg (by omega), if_neg (by omega), if_neg (by omega), if_neg (by omega), if_neg (by omega)]
    simp only [h2, not_false_eq_true, true_and, false_and, if_false]
    rw [if_neg (by omega)]
    simp only [code3, dg, List.getD_cons_zero, List.getD_cons_succ]
    congr 1
    omega
theorem code3_range {s : Bs} (hd : ∀ j, j < 3 → isDg (s.getD j 0) = true) : 0 ≤ code3 s ∧ code3 s ≤ 999 := by
  have ha := isDg_range (hd 0 (by omega))
  have hb := isDg_range (hd 1 (by omega))
  have hc := isDg_range (hd 2 (by omega))
  simp only [code3, dg]
  omega
theorem digs_of {s : Bs} (hd : ∀ j, j < 3 → isDg (s.getD j 0) = true) : digs s = true := by
  simp only [digs, hd 0 (by omega), hd 1 (by omega), hd 2 (by omega), Bool.and_self]
theorem digs_not {s : Bs} {k : Nat} (hk : k < 3) (h : isDg (s.getD k 0) = false) : digs s = false := by
  simp only [digs]
  match k, hk with
  | 0, _ => simp only [h, Bool.false_and]
  | 1, _ => simp only [h, Bool.false_and, Bool.and_false]
  | 2, _ => simp only [h, Bool.and_false]
abbrev Sp.v (s : Sp) : Value := .tuple #[num s.n, bol s.more, str s.text, bol s.ok]
theorem spec_split (w0 : World) (l : Ln) (cs : List SProp) (hl : l.text.length ≤ 9223372036854775807) : Spec Tryd.prog w0 45 [l.v] cs (fun v cs' => v = (splitL l).v ∧ cs' = cs) := by
  obtain ⟨k, s⟩ := l
  simp only at hl
  refine Spec.of_body Tryd.func45 rfl Tryd.ntmps45 rfl ?_
  refine H.seq ?_
  refine H.region ?_
  refine Ops.eff (Ef.box rfl rfl) rfl ?_
  rintro _ _ ⟨b1, rfl, rfl⟩
  refine Ops.quiet (Qt.assign rfl) rfl ?_
  refine Ops.quiet (Qt.assign rfl) rfl ?_
  refine Ops.quiet (Qt.assign rfl) rfl ?_
  refine Ops.quiet (Qt.assign rfl) rfl ?_
  refine Ops.nil ?_
  refine H.then_normal ?_
  refine H.seq ?_
  refine H.region ?_
  refine Ops.quiet (Qt.fieldAddr rfl (tk rfl) rfl) rfl ?_
  refine Ops.quiet (Qt.load rfl (tk rfl) rfl (by repeat (first | exact List.Mem.head _ | apply List.Mem.tail)) (by rfl)) rfl ?_
  refine Ops.quiet (Qt.assign rfl) rfl ?_
  refine Ops.nil ?_
  refine H.then_normal ?_
  refine H.seq ?_
  refine H.seq ?_
  refine H.region ?_
  refine Ops.quiet (Qt.fieldAddr rfl (tk rfl) rfl) rfl ?_
  refine Ops.quiet (Qt.load rfl (tk rfl) rfl (by repeat (first | exact List.Mem.head _ | apply List.Mem.tail)) (by rfl)) rfl ?_
  refine Ops.quiet (Qt.neq rfl rfl) rfl ?_
  refine Ops.quiet (Qt.move rfl) rfl ?_
  refine Ops.guard rfl rfl rfl rfl (fun g14 => ?_) (fun g14 => ?_)
  · have g14' := g14
    try simp only [decide_eq_true_eq, decide_eq_false_iff_not, beq_iff_eq, beq_eq_false_iff_ne, bne_iff_ne, ne_eq, Bool.not_eq_true', Bool.not_eq_false', bne_eq_false_iff_eq, Bool.not_eq_eq_eq_not, Bool.not_true, Bool.not_false] at g14'
    refine Ops.quiet (Qt.move rfl) rfl ?_
    refine Ops.guard_yes rfl rfl rfl rfl g14 ?_
    refine Ops.quiet (Qt.len_str rfl (tk rfl)) rfl ?_
    refine Ops.guard_yes rfl rfl rfl rfl g14 ?_
    refine Ops.quiet (Qt.lss rfl rfl) rfl ?_
    refine Ops.quiet (Qt.pick_f rfl rfl g14) rfl ?_
    refine Ops.nil ?_
    refine H.then_normal ?_
    refine H.cond rfl (fun h18 => ?_) (fun h18 => ?_)
    · try simp only [decide_eq_true_eq, decide_eq_false_iff_not, beq_iff_eq, beq_eq_false_iff_ne, bne_iff_ne, ne_eq, Bool.not_eq_true', Bool.not_eq_false', bne_eq_false_iff_eq, Bool.not_eq_eq_eq_not, Bool.not_true, Bool.not_false] at h18
      refine H.seq ?_
      refine H.region ?_
      refine Ops.quiet (Qt.assign rfl) rfl ?_
      refine Ops.quiet (Qt.assign rfl) rfl ?_
      refine Ops.quiet (Qt.assign rfl) rfl ?_
      refine Ops.quiet (Qt.assign rfl) rfl ?_
      refine Ops.nil ?_
      refine H.then_normal ?_
      refine H.ret ?_
      refine H.then_ret ?_
      refine (H.ends_to (cs' := cs) rfl (.cons (.tmp rfl) (.cons (.tmp rfl) (.cons (.tmp rfl) (.cons (.tmp rfl) .nil)))) (fun w hw => ?_) ?_)
      · exact hw.tail
      · refine ⟨?_, rfl⟩
        have e1 : splitL ⟨k, s⟩ = ⟨0, false, [], false⟩ := by
          unfold splitL
          rw [if_pos (.inr (by simp only []; omega))]
        rw [e1]; rfl
    · try simp only [decide_eq_true_eq, decide_eq_false_iff_not, beq_iff_eq, beq_eq_false_iff_ne, bne_iff_ne, ne_eq, Bool.not_eq_true', Bool.not_eq_false', bne_eq_false_iff_eq, Bool.not_eq_eq_eq_not, Bool.not_true, Bool.not_false] at h18
      refine H.skip ?_
      refine H.then_normal ?_
      refine H.seq ?_
      refine H.seq ?_
      refine H.region ?_
      refine Ops.quiet (Qt.move rfl) rfl ?_
      refine Ops.nil ?_
      refine H.then_normal ?_
      refine H.block ?_
      refine H.loop (X := Nat) (fun j => [(1, ptr b1), (6, str s), (19, num j)]) (fun j => blk b1 [num k, str s] 57 :: cs) (fun j => j ≤ 3 ∧ ∀ i, i < j → isDg (s.getD i 0) = true) (fun j => 3 - j) 0 ⟨Nat.zero_le _, fun i h => absurd h (Nat.not_lt_zero _)⟩ (by repeat (first | exact trivial | refine ⟨rfl, ?_⟩)) (fun w hw => hw) ?_
      intro j ⟨hj, hdg⟩
      refine H.seq ?_
      refine H.region ?_
      refine Ops.quiet (Qt.lss rfl rfl) rfl ?_
      refine Ops.nil ?_
      refine H.then_normal ?_
      refine H.seq ?_
      refine H.cond rfl (fun h20 => ?_) (fun h20 => ?_)
      · try simp only [decide_eq_true_eq, decide_eq_false_iff_not, beq_iff_eq, beq_eq_false_iff_ne, bne_iff_ne, ne_eq, Bool.not_eq_true', Bool.not_eq_false', bne_eq_false_iff_eq, Bool.not_eq_eq_eq_not, Bool.not_true, Bool.not_false] at h20
        have hj3 : j < 3 := by omega
        have hjs : j < s.length := by omega
        refine H.skip ?_
        refine H.then_normal ?_
        refine H.seq ?_
        refine H.block ?_
        refine H.seq ?_
        refine H.region ?_
        refine Ops.quiet (Qt.move rfl) rfl ?_
        refine Ops.quiet (Qt.assign rfl) rfl ?_
        refine Ops.nil ?_
        refine H.then_normal ?_
        refine H.seq ?_
        refine H.region ?_
        refine Ops.quiet (Qt.move rfl) rfl ?_
        refine Ops.quiet (Qt.move rfl) rfl ?_
        refine Ops.quiet (Qt.sidx rfl rfl (tk rfl) (by omega) (by omega)) rfl ?_
        refine Ops.quiet (Qt.lss rfl rfl) rfl ?_
        refine Ops.quiet (Qt.move rfl) rfl ?_
        refine Ops.guard rfl rfl rfl rfl (fun g26 => ?_) (fun g26 => ?_)
        · have g26' := g26
          try simp only [decide_eq_true_eq, decide_eq_false_iff_not, beq_iff_eq, beq_eq_false_iff_ne, bne_iff_ne, ne_eq, Bool.not_eq_true', Bool.not_eq_false', bne_eq_false_iff_eq, Bool.not_eq_eq_eq_not, Bool.not_true, Bool.not_false] at g26'
          refine Ops.quiet (Qt.move rfl) rfl ?_
          refine Ops.guard_yes rfl rfl rfl rfl g26 ?_
          refine Ops.quiet (Qt.move rfl) rfl ?_
          refine Ops.guard_yes rfl rfl rfl rfl g26 ?_
          refine Ops.quiet (Qt.sidx rfl rfl (tk rfl) (by omega) (by omega)) rfl ?_
          refine Ops.guard_yes rfl rfl rfl rfl g26 ?_
          refine Ops.quiet (Qt.gtr rfl rfl) rfl ?_
          refine Ops.quiet (Qt.pick_f rfl rfl g26) rfl ?_
          refine Ops.nil ?_
          refine H.then_normal ?_
          refine H.cond rfl (fun h31 => ?_) (fun h31 => ?_)
          · try simp only [decide_eq_true_eq, decide_eq_false_iff_not, beq_iff_eq, beq_eq_false_iff_ne, bne_iff_ne, ne_eq, Bool.not_eq_true', Bool.not_eq_false', bne_eq_false_iff_eq, Bool.not_eq_eq_eq_not, Bool.not_true, Bool.not_false] at h31
            refine H.seq ?_
            refine H.region ?_
            refine Ops.quiet (Qt.assign rfl) rfl ?_
            refine Ops.quiet (Qt.assign rfl) rfl ?_
            refine Ops.quiet (Qt.assign rfl) rfl ?_
            refine Ops.quiet (Qt.assign rfl) rfl ?_
            refine Ops.nil ?_
            refine H.then_normal ?_
            refine H.ret ?_
            refine H.blk_ret ?_
            refine H.then_ret ?_
            refine H.then_ret ?_
            refine H.blk_ret ?_
            refine H.then_ret ?_
            refine (H.ends_to (cs' := cs) rfl (.cons (.tmp rfl) (.cons (.tmp rfl) (.cons (.tmp rfl) (.cons (.tmp rfl) .nil)))) (fun w hw => ?_) ?_)
            · exact hw.tail
            · refine ⟨?_, rfl⟩
              have e1 : splitL ⟨k, s⟩ = ⟨0, false, [], false⟩ := by
                unfold splitL
                rw [if_neg (by simp only []; omega), if_pos (digs_not hj3 (by have := (show 57 < ((s.getD j 0).toNat : Int) from h31); simp only [isDg, decide_eq_true this, Bool.or_true, Bool.not_true]))]
              rw [e1]; rfl
          · try simp only [decide_eq_true_eq, decide_eq_false_iff_not, beq_iff_eq, beq_eq_false_iff_ne, bne_iff_ne, ne_eq, Bool.not_eq_true', Bool.not_eq_false', bne_eq_false_iff_eq, Bool.not_eq_eq_eq_not, Bool.not_true, Bool.not_false] at h31
            refine H.skip ?_
            refine H.blk_normal ?_
            refine H.then_normal ?_
            refine H.region ?_
            refine Ops.quiet (Qt.add64 rfl rfl (by omega) (by omega)) rfl ?_
            refine Ops.quiet (Qt.move rfl) rfl ?_
            refine Ops.nil ?_
            refine H.then_normal ?_
            refine H.round (j + 1) ⟨by omega, fun i hi => ?_⟩ (by omega) (by repeat (first | exact trivial | refine ⟨rfl, ?_⟩)) (fun w hw => hw)
            rcases Nat.lt_succ_iff_lt_or_eq.1 hi with hi | rfl
            · exact hdg i hi
            · have a1 := (show ¬ ((s.getD i 0).toNat : Int) < 48 from g26')
              have a2 := (show ¬ 57 < ((s.getD i 0).toNat : Int) from h31)
              simp only [isDg, decide_eq_false a1, decide_eq_false a2, Bool.or_false, Bool.not_false]
        · have g26' := g26
          try simp only [decide_eq_true_eq, decide_eq_false_iff_not, beq_iff_eq, beq_eq_false_iff_ne, bne_iff_ne, ne_eq, Bool.not_eq_true', Bool.not_eq_false', bne_eq_false_iff_eq, Bool.not_eq_eq_eq_not, Bool.not_true, Bool.not_false] at g26'
          refine Ops.guard_no rfl rfl rfl rfl g26 ?_
          refine Ops.guard_no rfl rfl rfl rfl g26 ?_
          refine Ops.guard_no rfl rfl rfl rfl g26 ?_
          refine Ops.quiet (Qt.pick_t rfl rfl g26) rfl ?_
          refine Ops.nil ?_
          refine H.then_normal ?_
          refine H.cond_true rfl (by rfl) ?_
          refine H.seq ?_
          refine H.region ?_
          refine Ops.quiet (Qt.assign rfl) rfl ?_
          refine Ops.quiet (Qt.assign rfl) rfl ?_
          refine Ops.quiet (Qt.assign rfl) rfl ?_
          refine Ops.quiet (Qt.assign rfl) rfl ?_
          refine Ops.nil ?_
          refine H.then_normal ?_
          refine H.ret ?_
          refine H.blk_ret ?_
          refine H.then_ret ?_
          refine H.then_ret ?_
          refine H.blk_ret ?_
          refine H.then_ret ?_
          refine (H.ends_to (cs' := cs) rfl (.cons (.tmp rfl) (.cons (.tmp rfl) (.cons (.tmp rfl) (.cons (.tmp rfl) .nil)))) (fun w hw => ?_) ?_)
          · exact hw.tail
          · refine ⟨?_, rfl⟩
            have e1 : splitL ⟨k, s⟩ = ⟨0, false, [], false⟩ := by
              unfold splitL
              rw [if_neg (by simp only []; omega), if_pos (digs_not hj3 (by have := (show ((s.getD j 0).toNat : Int) < 48 from g26'); simp only [isDg, decide_eq_true this, Bool.true_or, Bool.not_true]))]
            rw [e1]; rfl
      · try simp only [decide_eq_true_eq, decide_eq_false_iff_not, beq_iff_eq, beq_eq_false_iff_ne, bne_iff_ne, ne_eq, Bool.not_eq_true', Bool.not_eq_false', bne_eq_false_iff_eq, Bool.not_eq_eq_eq_not, Bool.not_true, Bool.not_false] at h20
        obtain rfl : j = 3 := by omega
        have hT := atoi3 s (by omega) hdg
        have hT2 := digs_of hdg
        have hT3 := code3_range hdg
        have hT4 : ¬ s.length < 3 := by omega
        have hT5 : (s.take 3).length ≤ 9223372036854775806 := by rw [List.length_take]; omega
        refine H.exit ?_
        refine H.then_exit ?_
        refine H.then_exit ?_
        refine H.blk_hit ?_
        refine H.then_normal ?_
        refine H.seq ?_
        refine H.region ?_
        refine Ops.quiet (Qt.move rfl) rfl ?_
        refine Ops.quiet (Qt.sslice rfl (tk rfl) rfl rfl (by omega) (by omega) (by omega)) rfl ?_
        refine Ops.eff (Ef.call (fok fab_all rfl Tryd.func57 rfl) rfl (spec_atoi hT hT5)) rfl ?_
        rintro _ _ ⟨rfl, rfl⟩
        refine Ops.quiet (Qt.move rfl) rfl ?_
        refine Ops.quiet (Qt.extract rfl rfl) rfl ?_
        refine Ops.quiet (Qt.extract rfl rfl) rfl ?_
        refine Ops.quiet (Qt.assign rfl) rfl ?_
        refine Ops.nil ?_
        refine H.then_normal ?_
        refine H.seq ?_
        refine H.seq ?_
        refine H.region ?_
        refine Ops.quiet (Qt.move rfl) rfl ?_
        refine Ops.quiet (Qt.len_str rfl (tk rfl)) rfl ?_
        refine Ops.quiet (Qt.eql rfl rfl) rfl ?_
        refine Ops.nil ?_
        refine H.then_normal ?_
        refine H.cond rfl (fun h41 => ?_) (fun h41 => ?_)
        · try simp only [decide_eq_true_eq, decide_eq_false_iff_not, beq_iff_eq, beq_eq_false_iff_ne, bne_iff_ne, ne_eq, Bool.not_eq_true', Bool.not_eq_false', bne_eq_false_iff_eq, Bool.not_eq_eq_eq_not, Bool.not_true, Bool.not_false] at h41
          refine H.seq ?_
          refine H.region ?_
          refine Ops.quiet (Qt.move rfl) rfl ?_
          refine Ops.quiet (Qt.move rfl) rfl ?_
          refine Ops.eff (Ef.call (fok fab_all rfl Tryd.func58 rfl) rfl (spec_code w0 (code3 s) _)) rfl ?_
          rintro _ _ ⟨rfl, rfl⟩
          refine Ops.quiet (Qt.assign rfl) rfl ?_
          refine Ops.quiet (Qt.assign rfl) rfl ?_
          refine Ops.quiet (Qt.assign rfl) rfl ?_
          refine Ops.quiet (Qt.assign rfl) rfl ?_
          refine Ops.nil ?_
          refine H.then_normal ?_
          refine H.ret ?_
          refine H.then_ret ?_
          refine (H.ends_to (cs' := cs) rfl (.cons (.tmp rfl) (.cons (.tmp rfl) (.cons (.tmp rfl) (.cons (.tmp rfl) .nil)))) (fun w hw => ?_) ?_)
          · exact hw.tail
          · refine ⟨?_, rfl⟩
            have e1 : splitL ⟨k, s⟩ = ⟨code3 s, false, [], codeOk (code3 s)⟩ := by
              unfold splitL
              rw [if_neg (by simp only []; omega), if_neg (by rw [hT2]; simp), if_pos (by simp only []; omega)]
            rw [e1]; rfl
        · try simp only [decide_eq_true_eq, decide_eq_false_iff_not, beq_iff_eq, beq_eq_false_iff_ne, bne_iff_ne, ne_eq, Bool.not_eq_true', Bool.not_eq_false', bne_eq_false_iff_eq, Bool.not_eq_eq_eq_not, Bool.not_true, Bool.not_false] at h41
          refine H.skip ?_
          refine H.then_normal ?_
          refine H.seq ?_
          refine H.region ?_
          refine Ops.quiet (Qt.move rfl) rfl ?_
          refine Ops.quiet (Qt.sidx rfl rfl (tk rfl) (by omega) (by omega)) rfl ?_
          refine Ops.quiet (Qt.assign rfl) rfl ?_
          refine Ops.nil ?_
          refine H.then_normal ?_
          refine H.seq ?_
          refine H.drawn_all 18 mixed (by kernel_rfl) ?_
          refine Hd.quiet 0 (by kernel_rfl) rfl rfl (by kernel_rfl) rfl (Qt.move rfl) ?_
          refine Hd.quiet 1 (by kernel_rfl) rfl rfl (by kernel_rfl) rfl (Qt.move rfl) ?_
          refine Hd.quiet 2 (by kernel_rfl) rfl rfl (by kernel_rfl) rfl (Qt.eql rfl rfl) ?_
          refine Hd.quiet 3 (by kernel_rfl) rfl rfl (by kernel_rfl) rfl (Qt.move rfl) ?_
          refine Hd.quiet 4 (by kernel_rfl) rfl rfl (by kernel_rfl) rfl (Qt.sslice rfl (tk rfl) rfl rfl (by omega) (by omega) (by omega)) ?_
          refine Hd.quiet 5 (by kernel_rfl) rfl rfl (by kernel_rfl) rfl (Qt.move rfl) ?_
          refine Hd.eff 6 (by intro w hw; first | exact hw | exact Own.sub (by repeat (first | exact List.Sublist.refl _ | exact List.nil_sublist _ | apply List.Sublist.cons_cons | apply List.Sublist.cons)) hw) rfl rfl (by kernel_rfl) rfl (Ef.call (fok fab_all rfl Tryd.func58 rfl) rfl (spec_code w0 (code3 s) _)) ?_
          rintro _ _ ⟨rfl, rfl⟩
          refine Hd.quiet 7 (by kernel_rfl) rfl rfl (by kernel_rfl) rfl (Qt.move rfl) ?_
          refine Hd.case (d := 54) rfl (fun g54 => ?_) (fun g54 => ?_)
          · have g54' := g54
            try simp only [decide_eq_true_eq, decide_eq_false_iff_not, beq_iff_eq, beq_eq_false_iff_ne, bne_iff_ne, ne_eq, Bool.not_eq_true', Bool.not_eq_false', bne_eq_false_iff_eq, Bool.not_eq_eq_eq_not, Bool.not_true, Bool.not_false] at g54'
            refine Hd.guard_yes 8 (by kernel_rfl) rfl rfl (by kernel_rfl) rfl rfl rfl rfl g54 (Qt.move rfl) ?_
            refine Hd.guard_yes 9 (by kernel_rfl) rfl rfl (by kernel_rfl) rfl rfl rfl rfl g54 (Qt.eql rfl rfl) ?_
            refine Hd.guard_yes 10 (by kernel_rfl) rfl rfl (by kernel_rfl) rfl rfl rfl rfl g54 (Qt.move rfl) ?_
            refine Hd.case (d := 57) rfl (fun g57 => ?_) (fun g57 => ?_)
            · have g57' := g57
              try simp only [decide_eq_true_eq, decide_eq_false_iff_not, beq_iff_eq, beq_eq_false_iff_ne, bne_iff_ne, ne_eq, Bool.not_eq_true', Bool.not_eq_false', bne_eq_false_iff_eq, Bool.not_eq_eq_eq_not, Bool.not_true, Bool.not_false] at g57'
              refine Hd.guard_no 11 (by kernel_rfl) rfl rfl (by kernel_rfl) rfl rfl rfl rfl g57 ?_
              refine Hd.guard_no 12 (by kernel_rfl) rfl rfl (by kernel_rfl) rfl rfl rfl rfl g57 ?_
              refine Hd.guard_yes 13 (by kernel_rfl) rfl rfl (by kernel_rfl) rfl rfl rfl rfl g54 (Qt.pick_t rfl rfl g57) ?_
              refine Hd.quiet 14 (by kernel_rfl) rfl rfl (by kernel_rfl) rfl (Qt.pick_t rfl rfl g54) ?_
              refine Hd.quiet 15 (by kernel_rfl) rfl rfl (by kernel_rfl) rfl (Qt.assign rfl) ?_
              refine Hd.quiet 16 (by kernel_rfl) rfl rfl (by kernel_rfl) rfl (Qt.assign rfl) ?_
              refine Hd.quiet 17 (by kernel_rfl) rfl rfl (by kernel_rfl) rfl (Qt.assign rfl) ?_
              refine Hd.tail (by intro w hw; first | exact hw | exact Own.sub (by repeat (first | exact List.Sublist.refl _ | exact List.nil_sublist _ | apply List.Sublist.cons_cons | apply List.Sublist.cons)) hw) (by kernel_rfl) rfl ?_
              refine Ops.quiet (Qt.assign rfl) rfl ?_
              refine Ops.nil ?_
              refine H.then_normal ?_
              refine H.ret ?_
              refine (H.ends_to (cs' := cs) rfl (.cons (.tmp rfl) (.cons (.tmp rfl) (.cons (.tmp rfl) (.cons (.tmp rfl) .nil)))) (fun w hw => ?_) ?_)
              · exact hw.tail
              · refine ⟨?_, rfl⟩
                have e1 : splitL ⟨k, s⟩ = ⟨code3 s, ((s.getD 3 0).toNat : Int) == 45, s.drop 4, codeOk (code3 s) && (((s.getD 3 0).toNat : Int) == 32 || ((s.getD 3 0).toNat : Int) == 45)⟩ := by
                  unfold splitL
                  rw [if_neg (by simp only []; omega), if_neg (by rw [hT2]; simp), if_neg (by simp only []; omega)]
                rw [e1]
                have e2 : (s.drop 4).take (s.length - 4) = s.drop 4 := List.take_of_length_le (by simp)
                have e3 : (((s.getD 3 0).toNat : Int) == 32) = true := g57
                show Value.tuple #[num (code3 s), bol (((s.getD 3 0).toNat : Int) == 45), str ((s.drop 4).take (s.length - 4)), bol true] = _
                rw [e2]; simp only [Sp.v, g54, e3]; rfl
            · have g57' := g57
              try simp only [decide_eq_true_eq, decide_eq_false_iff_not, beq_iff_eq, beq_eq_false_iff_ne, bne_iff_ne, ne_eq, Bool.not_eq_true', Bool.not_eq_false', bne_eq_false_iff_eq, Bool.not_eq_eq_eq_not, Bool.not_true, Bool.not_false] at g57'
              refine Hd.guard_yes 11 (by kernel_rfl) rfl rfl (by kernel_rfl) rfl rfl rfl rfl g57 (Qt.move rfl) ?_
              refine Hd.guard_yes 12 (by kernel_rfl) rfl rfl (by kernel_rfl) rfl rfl rfl rfl g57 (Qt.eql rfl rfl) ?_
              refine Hd.guard_yes 13 (by kernel_rfl) rfl rfl (by kernel_rfl) rfl rfl rfl rfl g54 (Qt.pick_f rfl rfl g57) ?_
              refine Hd.quiet 14 (by kernel_rfl) rfl rfl (by kernel_rfl) rfl (Qt.pick_t rfl rfl g54) ?_
              refine Hd.quiet 15 (by kernel_rfl) rfl rfl (by kernel_rfl) rfl (Qt.assign rfl) ?_
              refine Hd.quiet 16 (by kernel_rfl) rfl rfl (by kernel_rfl) rfl (Qt.assign rfl) ?_
              refine Hd.quiet 17 (by kernel_rfl) rfl rfl (by kernel_rfl) rfl (Qt.assign rfl) ?_
              refine Hd.tail (by intro w hw; first | exact hw | exact Own.sub (by repeat (first | exact List.Sublist.refl _ | exact List.nil_sublist _ | apply List.Sublist.cons_cons | apply List.Sublist.cons)) hw) (by kernel_rfl) rfl ?_
              refine Ops.quiet (Qt.assign rfl) rfl ?_
              refine Ops.nil ?_
              refine H.then_normal ?_
              refine H.ret ?_
              refine (H.ends_to (cs' := cs) rfl (.cons (.tmp rfl) (.cons (.tmp rfl) (.cons (.tmp rfl) (.cons (.tmp rfl) .nil)))) (fun w hw => ?_) ?_)
              · exact hw.tail
              · refine ⟨?_, rfl⟩
                have e1 : splitL ⟨k, s⟩ = ⟨code3 s, ((s.getD 3 0).toNat : Int) == 45, s.drop 4, codeOk (code3 s) && (((s.getD 3 0).toNat : Int) == 32 || ((s.getD 3 0).toNat : Int) == 45)⟩ := by
                  unfold splitL
                  rw [if_neg (by simp only []; omega), if_neg (by rw [hT2]; simp), if_neg (by simp only []; omega)]
                rw [e1]
                have e2 : (s.drop 4).take (s.length - 4) = s.drop 4 := List.take_of_length_le (by simp)
                have e3 : (((s.getD 3 0).toNat : Int) == 32) = false := g57
                show Value.tuple #[num (code3 s), bol (((s.getD 3 0).toNat : Int) == 45), str ((s.drop 4).take (s.length - 4)), bol (((s.getD 3 0).toNat : Int) == 45)] = _
                rw [e2]; simp only [Sp.v, g54, e3]; rfl
          · have g54' := g54
            try simp only [decide_eq_true_eq, decide_eq_false_iff_not, beq_iff_eq, beq_eq_false_iff_ne, bne_iff_ne, ne_eq, Bool.not_eq_true', Bool.not_eq_false', bne_eq_false_iff_eq, Bool.not_eq_eq_eq_not, Bool.not_true, Bool.not_false] at g54'
            refine Hd.guard_no 8 (by kernel_rfl) rfl rfl (by kernel_rfl) rfl rfl rfl rfl g54 ?_
            refine Hd.guard_no 9 (by kernel_rfl) rfl rfl (by kernel_rfl) rfl rfl rfl rfl g54 ?_
            refine Hd.guard_no 10 (by kernel_rfl) rfl rfl (by kernel_rfl) rfl rfl rfl rfl g54 ?_
            refine Hd.guard_un 11 (by kernel_rfl) rfl rfl (by kernel_rfl) rfl rfl rfl rfl ?_
            refine Hd.guard_un 12 (by kernel_rfl) rfl rfl (by kernel_rfl) rfl rfl rfl rfl ?_
            refine Hd.guard_no 13 (by kernel_rfl) rfl rfl (by kernel_rfl) rfl rfl rfl rfl g54 ?_
            refine Hd.quiet 14 (by kernel_rfl) rfl rfl (by kernel_rfl) rfl (Qt.pick_f rfl rfl g54) ?_
            refine Hd.quiet 15 (by kernel_rfl) rfl rfl (by kernel_rfl) rfl (Qt.assign rfl) ?_
            refine Hd.quiet 16 (by kernel_rfl) rfl rfl (by kernel_rfl) rfl (Qt.assign rfl) ?_
            refine Hd.quiet 17 (by kernel_rfl) rfl rfl (by kernel_rfl) rfl (Qt.assign rfl) ?_
            refine Hd.tail (by intro w hw; first | exact hw | exact Own.sub (by repeat (first | exact List.Sublist.refl _ | exact List.nil_sublist _ | apply List.Sublist.cons_cons | apply List.Sublist.cons)) hw) (by kernel_rfl) rfl ?_
            refine Ops.quiet (Qt.assign rfl) rfl ?_
            refine Ops.nil ?_
            refine H.then_normal ?_
            refine H.ret ?_
            refine (H.ends_to (cs' := cs) rfl (.cons (.tmp rfl) (.cons (.tmp rfl) (.cons (.tmp rfl) (.cons (.tmp rfl) .nil)))) (fun w hw => ?_) ?_)
            · exact hw.tail
            · refine ⟨?_, rfl⟩
              have e1 : splitL ⟨k, s⟩ = ⟨code3 s, ((s.getD 3 0).toNat : Int) == 45, s.drop 4, codeOk (code3 s) && (((s.getD 3 0).toNat : Int) == 32 || ((s.getD 3 0).toNat : Int) == 45)⟩ := by
                unfold splitL
                rw [if_neg (by simp only []; omega), if_neg (by rw [hT2]; simp), if_neg (by simp only []; omega)]
              rw [e1]
              have e2 : (s.drop 4).take (s.length - 4) = s.drop 4 := List.take_of_length_le (by simp)
              show Value.tuple #[num (code3 s), bol (((s.getD 3 0).toNat : Int) == 45), str ((s.drop 4).take (s.length - 4)), bol false] = _
              rw [e2]; simp only [Sp.v, g54]; rfl
  · have g14' := g14
    try simp only [decide_eq_true_eq, decide_eq_false_iff_not, beq_iff_eq, beq_eq_false_iff_ne, bne_iff_ne, ne_eq, Bool.not_eq_true', Bool.not_eq_false', bne_eq_false_iff_eq, Bool.not_eq_eq_eq_not, Bool.not_true, Bool.not_false] at g14'
    refine Ops.guard_no rfl rfl rfl rfl g14 ?_
    refine Ops.guard_no rfl rfl rfl rfl g14 ?_
    refine Ops.quiet (Qt.pick_t rfl rfl g14) rfl ?_
    refine Ops.nil ?_
    refine H.then_normal ?_
    refine H.cond_true rfl (by rfl) ?_
    refine H.seq ?_
    refine H.region ?_
    refine Ops.quiet (Qt.assign rfl) rfl ?_
    refine Ops.quiet (Qt.assign rfl) rfl ?_
    refine Ops.quiet (Qt.assign rfl) rfl ?_
    refine Ops.quiet (Qt.assign rfl) rfl ?_
    refine Ops.nil ?_
    refine H.then_normal ?_
    refine H.ret ?_
    refine H.then_ret ?_
    refine (H.ends_to (cs' := cs) rfl (.cons (.tmp rfl) (.cons (.tmp rfl) (.cons (.tmp rfl) (.cons (.tmp rfl) .nil)))) (fun w hw => ?_) ?_)
    · exact hw.tail
    · refine ⟨?_, rfl⟩
      have e1 : splitL ⟨k, s⟩ = ⟨0, false, [], false⟩ := by
        unfold splitL
        rw [if_pos (.inl (by omega))]
      rw [e1]; rfl
structure Rf where
  code : Int
  lines : List Bs
  rc : Int
  whole : Bool
  err : Int
def replyF (code : Int) (ls : List Bs) (s : Sp) : Rf :=
  if s.ok = false ∨ (0 < ls.length ∧ code ≠ s.n) then ⟨0, [], 0, false, 2⟩
  else if s.more = true then ⟨s.n, ls ++ [s.text], 0, false, 0⟩
  else ⟨0, [], s.n, true, 0⟩
theorem spec_rfeed (w0 : World) (b : Nat) (code : Int) (ls : List Bs) (l : Ln) (fr : List SProp) (hl : l.text.length ≤ 9223372036854775807) (hn : ls.length ≤ 1000000000000) :
    Spec Tryd.prog w0 28 [ptr b, l.v] (replyR b code ls :: fr) (fun v cs' => ∃ A n c, v = .tuple #[.agg #[num (replyF code ls (splitL l)).rc, .slice A n c], bol (replyF code ls (splitL l)).whole, num (replyF code ls (splitL l)).err] ∧
      cs' = replyR b (replyF code ls (splitL l)).code (replyF code ls (splitL l)).lines :: fr) := by
  refine Spec.of_body Tryd.func28 rfl Tryd.ntmps28 rfl ?_
  refine H.open_reply fun rA rn rc ⟨rl1, rl2, rl3⟩ => ?_
  generalize hsp : splitL l = sp
  refine H.seq ?_
  refine H.region ?_
  refine Ops.eff (Ef.box rfl rfl) rfl ?_
  rintro _ _ ⟨b3, rfl, rfl⟩
  refine Ops.eff (Ef.alloc (zk rfl)) rfl ?_
  rintro _ _ ⟨b4, rfl, rfl⟩
  refine Ops.quiet (Qt.assign rfl) rfl ?_
  refine Ops.quiet (Qt.assign rfl) rfl ?_
  refine Ops.nil ?_
  refine H.then_normal ?_
  refine H.seq ?_
  refine H.seq ?_
  refine H.region ?_
  refine Ops.quiet (Qt.move rfl) rfl ?_
  refine Ops.quiet (Qt.ptr_eq_nil rfl (tk rfl)) rfl ?_
  refine Ops.nil ?_
  refine H.then_normal ?_
  refine H.cond_false rfl (by rfl) ?_
  refine H.skip ?_
  refine H.then_normal ?_
  refine H.seq ?_
  refine H.region ?_
  refine Ops.quiet (Qt.load_agg rfl (tk rfl) rfl (by repeat (first | exact List.Mem.head _ | apply List.Mem.tail)) (by rfl) (by rfl)) rfl ?_
  refine Ops.eff (Ef.call (fok fab_all rfl Tryd.func45 rfl) rfl (spec_split w0 l _ hl)) rfl ?_
  rintro _ _ ⟨rfl, rfl⟩
  rw [hsp]
  refine Ops.quiet (Qt.move rfl) rfl ?_
  refine Ops.quiet (Qt.extract rfl rfl) rfl ?_
  refine Ops.quiet (Qt.extract rfl rfl) rfl ?_
  refine Ops.quiet (Qt.extract rfl rfl) rfl ?_
  refine Ops.quiet (Qt.extract rfl rfl) rfl ?_
  refine Ops.quiet (Qt.assign rfl) rfl ?_
  refine Ops.quiet (Qt.assign rfl) rfl ?_
  refine Ops.quiet (Qt.assign rfl) rfl ?_
  refine Ops.quiet (Qt.assign rfl) rfl ?_
  refine Ops.nil ?_
  refine H.then_normal ?_
  refine H.seq ?_
  refine H.seq ?_
  refine H.region ?_
  refine Ops.quiet (Qt.move rfl) rfl ?_
  refine Ops.quiet (Qt.not rfl) rfl ?_
  refine Ops.quiet (Qt.move rfl) rfl ?_
  refine Ops.guard rfl rfl rfl rfl (fun g24 => ?_) (fun g24 => ?_)
  · have g24' := g24
    try simp only [decide_eq_true_eq, decide_eq_false_iff_not, beq_iff_eq, beq_eq_false_iff_ne, bne_iff_ne, ne_eq, Bool.not_eq_true', Bool.not_eq_false', bne_eq_false_iff_eq, Bool.not_eq_eq_eq_not, Bool.not_true, Bool.not_false] at g24'
    refine Ops.quiet (Qt.move rfl) rfl ?_
    refine Ops.guard_yes rfl rfl rfl rfl g24 ?_
    refine Ops.quiet (Qt.nilCheck rfl) rfl ?_
    refine Ops.guard_yes rfl rfl rfl rfl g24 ?_
    refine Ops.quiet (Qt.fieldAddr rfl (tk rfl) rfl) rfl ?_
    refine Ops.guard_yes rfl rfl rfl rfl g24 ?_
    refine Ops.quiet (Qt.fieldAddr rfl (tk rfl) rfl) rfl ?_
    refine Ops.guard_yes rfl rfl rfl rfl g24 ?_
    refine Ops.quiet (Qt.load rfl (tk rfl) rfl (by repeat (first | exact List.Mem.head _ | apply List.Mem.tail)) (by rfl)) rfl ?_
    refine Ops.guard_yes rfl rfl rfl rfl g24 ?_
    refine Ops.quiet (Qt.len_sl (ats := #[]) rfl (tk rfl)) rfl ?_
    refine Ops.guard_yes rfl rfl rfl rfl g24 ?_
    refine Ops.quiet (Qt.gtr rfl rfl) rfl ?_
    refine Ops.guard_yes rfl rfl rfl rfl g24 ?_
    refine Ops.quiet (Qt.move rfl) rfl ?_
    refine Ops.guard rfl rfl rfl rfl (fun g32 => ?_) (fun g32 => ?_)
    · have g32' := g32
      try simp only [decide_eq_true_eq, decide_eq_false_iff_not, beq_iff_eq, beq_eq_false_iff_ne, bne_iff_ne, ne_eq, Bool.not_eq_true', Bool.not_eq_false', bne_eq_false_iff_eq, Bool.not_eq_eq_eq_not, Bool.not_true, Bool.not_false] at g32'
      refine Ops.quiet (Qt.move rfl) rfl ?_
      refine Ops.guard_yes rfl rfl rfl rfl g32 ?_
      refine Ops.quiet (Qt.nilCheck rfl) rfl ?_
      refine Ops.guard_yes rfl rfl rfl rfl g32 ?_
      refine Ops.quiet (Qt.fieldAddr rfl (tk rfl) rfl) rfl ?_
      refine Ops.guard_yes rfl rfl rfl rfl g32 ?_
      refine Ops.quiet (Qt.fieldAddr rfl (tk rfl) rfl) rfl ?_
      refine Ops.guard_yes rfl rfl rfl rfl g32 ?_
      refine Ops.quiet (Qt.load rfl (tk rfl) rfl (by repeat (first | exact List.Mem.head _ | apply List.Mem.tail)) (by rfl)) rfl ?_
      refine Ops.guard_yes rfl rfl rfl rfl g32 ?_
      refine Ops.quiet (Qt.move rfl) rfl ?_
      refine Ops.guard_yes rfl rfl rfl rfl g32 ?_
      refine Ops.quiet (Qt.neq rfl rfl) rfl ?_
      refine Ops.guard_yes rfl rfl rfl rfl g24 ?_
      refine Ops.quiet (Qt.pick_t rfl rfl g32) rfl ?_
      refine Ops.quiet (Qt.pick_f rfl rfl g24) rfl ?_
      refine Ops.nil ?_
      refine H.then_normal ?_
      refine H.cond rfl (fun h41 => ?_) (fun h41 => ?_)
      · try simp only [decide_eq_true_eq, decide_eq_false_iff_not, beq_iff_eq, beq_eq_false_iff_ne, bne_iff_ne, ne_eq, Bool.not_eq_true', Bool.not_eq_false', bne_eq_false_iff_eq, Bool.not_eq_eq_eq_not, Bool.not_true, Bool.not_false] at h41
        refine H.seq ?_
        refine H.region ?_
        refine Ops.quiet (Qt.move rfl) rfl ?_
        refine Ops.quiet (Qt.build (tk rfl) (zk rfl) rfl (by rfl)) rfl ?_
        refine Ops.quiet (Qt.nilCheck rfl) rfl ?_
        refine Ops.quiet (Qt.fieldAddr rfl (tk rfl) rfl) rfl ?_
        refine Ops.eff (Ef.store rfl rfl (tk rfl) rfl rfl (by repeat (first | exact ones_nil | refine ones_cons rfl ?_)) (by repeat (first | exact Upd.head | apply Upd.tail)) (by rfl)) rfl ?_
        rintro _ _ rfl
        refine Ops.nil ?_
        refine H.then_normal ?_
        refine H.seq ?_
        refine H.region ?_
        refine Ops.quiet (Qt.build (tk rfl) (zk rfl) rfl (by rfl)) rfl ?_
        refine Ops.eff (Ef.store rfl rfl (tk rfl) rfl rfl (by repeat (first | exact ones_nil | refine ones_cons rfl ?_)) (by repeat (first | exact Upd.head | apply Upd.tail)) (by rfl)) rfl ?_
        rintro _ _ rfl
        refine Ops.quiet (Qt.assign rfl) rfl ?_
        refine Ops.quiet (Qt.assign rfl) rfl ?_
        refine Ops.nil ?_
        refine H.then_normal ?_
        refine H.ret ?_
        refine H.then_ret ?_
        have e1 : replyF code ls sp = ⟨0, [], 0, false, 2⟩ := by
          unfold replyF
          rw [if_pos (.inr ⟨by omega, h41⟩)]
        rw [e1]
        refine (H.ends_to (cs' := replyR b 0 [] :: fr) rfl (.cons (.agg rfl (tk rfl) rfl (by repeat (first | exact List.Mem.head _ | apply List.Mem.tail)) (by rfl) (by rfl)) (.cons (.tmp rfl) (.cons (.tmp rfl) .nil))) (fun w hw => ?_) ?_)
        · refine replyR_mk (A := none) (n := 0) (c := 0) (ls := []) (Own.perm (.swap _ _ _) (Own.nil_osl 9 (Own.sub ?_ hw))); repeat (first | exact List.Sublist.refl _ | exact List.nil_sublist _ | apply List.Sublist.cons_cons | apply List.Sublist.cons)
        · exact ⟨none, 0, 0, rfl, rfl⟩
      · try simp only [decide_eq_true_eq, decide_eq_false_iff_not, beq_iff_eq, beq_eq_false_iff_ne, bne_iff_ne, ne_eq, Bool.not_eq_true', Bool.not_eq_false', bne_eq_false_iff_eq, Bool.not_eq_eq_eq_not, Bool.not_true, Bool.not_false] at h41
        refine H.skip ?_
        refine H.then_normal ?_
        refine H.seq ?_
        refine H.region ?_
        refine Ops.quiet (Qt.move rfl) rfl ?_
        refine Ops.quiet (Qt.move rfl) rfl ?_
        refine Ops.quiet (Qt.move rfl) rfl ?_
        refine Ops.quiet (Qt.move rfl) rfl ?_
        refine Ops.quiet (Qt.nilCheck rfl) rfl ?_
        refine Ops.quiet (Qt.fieldAddr rfl (tk rfl) rfl) rfl ?_
        refine Ops.quiet (Qt.fieldAddr rfl (tk rfl) rfl) rfl ?_
        refine Ops.quiet (Qt.load rfl (tk rfl) rfl (by repeat (first | exact List.Mem.head _ | apply List.Mem.tail)) (by rfl)) rfl ?_
        refine Ops.quiet (Qt.move rfl) rfl ?_
        refine Ops.eff (Ef.buildSlice (tk rfl) (tk rfl) rfl (zk rfl) rfl rfl rfl (by repeat (first | exact ones_nil | refine ones_cons rfl ?_))) rfl ?_
        rintro _ _ ⟨A56, c56, rfl, rfl⟩
        refine Ops.eff (Ef.append1 (f := str) (l := ls) (b := sp.text) rfl rfl (tk rfl) (tk rfl) rfl (zk rfl) (by repeat (first | assumption | exact Reads.of_head | apply Reads.tail)) (by intro _ _; repeat (first | exact Upd.head | apply Upd.tail)) (fun _ => rfl) (by dsimp only; omega) (by simp only [maxLen]; omega)) rfl ?_
        rintro _ _ ⟨A57, c57, rfl, rfl⟩
        refine Ops.quiet (Qt.nilCheck rfl) rfl ?_
        refine Ops.quiet (Qt.fieldAddr rfl (tk rfl) rfl) rfl ?_
        refine Ops.quiet (Qt.fieldAddr rfl (tk rfl) rfl) rfl ?_
        refine Ops.eff (Ef.store rfl rfl (tk rfl) rfl rfl (by repeat (first | exact ones_nil | refine ones_cons rfl ?_)) (by repeat (first | exact Upd.head | apply Upd.tail)) (by rfl)) rfl ?_
        rintro _ _ rfl
        refine Ops.quiet (Qt.nilCheck rfl) rfl ?_
        refine Ops.quiet (Qt.fieldAddr rfl (tk rfl) rfl) rfl ?_
        refine Ops.quiet (Qt.fieldAddr rfl (tk rfl) rfl) rfl ?_
        refine Ops.eff (Ef.store rfl rfl (tk rfl) rfl rfl (by repeat (first | exact ones_nil | refine ones_cons rfl ?_)) (by repeat (first | exact Upd.head | apply Upd.tail)) (by rfl)) rfl ?_
        rintro _ _ rfl
        refine Ops.nil ?_
        refine H.then_normal ?_
        refine H.seq ?_
        refine H.seq ?_
        refine H.region ?_
        refine Ops.quiet (Qt.move rfl) rfl ?_
        refine Ops.nil ?_
        refine H.then_normal ?_
        refine H.cond rfl (fun h64 => ?_) (fun h64 => ?_)
        · try simp only [decide_eq_true_eq, decide_eq_false_iff_not, beq_iff_eq, beq_eq_false_iff_ne, bne_iff_ne, ne_eq, Bool.not_eq_true', Bool.not_eq_false', bne_eq_false_iff_eq, Bool.not_eq_eq_eq_not, Bool.not_true, Bool.not_false] at h64
          refine H.seq ?_
          refine H.region ?_
          refine Ops.quiet (Qt.build (tk rfl) (zk rfl) rfl (by rfl)) rfl ?_
          refine Ops.eff (Ef.store rfl rfl (tk rfl) rfl rfl (by repeat (first | exact ones_nil | refine ones_cons rfl ?_)) (by repeat (first | exact Upd.head | apply Upd.tail)) (by rfl)) rfl ?_
          rintro _ _ rfl
          refine Ops.quiet (Qt.assign rfl) rfl ?_
          refine Ops.quiet (Qt.assign rfl) rfl ?_
          refine Ops.nil ?_
          refine H.then_normal ?_
          refine H.ret ?_
          refine H.then_ret ?_
          have e1 : replyF code ls sp = ⟨sp.n, ls ++ [sp.text], 0, false, 0⟩ := by
            unfold replyF
            rw [if_neg (by rw [g24']; simp only [Bool.true_eq_false, false_or]; intro h; exact h.2 h41), if_pos h64]
          rw [e1]
          refine (H.ends_to (cs' := replyR b sp.n (ls ++ [sp.text]) :: fr) rfl (.cons (.agg rfl (tk rfl) rfl (by repeat (first | exact List.Mem.head _ | apply List.Mem.tail)) (by rfl) (by rfl)) (.cons (.tmp rfl) (.cons (.tmp rfl) .nil))) (fun w hw => ?_) ?_)
          · refine replyR_mk (A := A57) (n := rn + 1) (c := c57) (Own.sub ?_ hw); repeat (first | exact List.Sublist.refl _ | exact List.nil_sublist _ | apply List.Sublist.cons_cons | apply List.Sublist.cons)
          · exact ⟨none, 0, 0, rfl, rfl⟩
        · try simp only [decide_eq_true_eq, decide_eq_false_iff_not, beq_iff_eq, beq_eq_false_iff_ne, bne_iff_ne, ne_eq, Bool.not_eq_true', Bool.not_eq_false', bne_eq_false_iff_eq, Bool.not_eq_eq_eq_not, Bool.not_true, Bool.not_false] at h64
          refine H.skip ?_
          refine H.then_normal ?_
          refine H.seq ?_
          refine H.region ?_
          refine Ops.quiet (Qt.move rfl) rfl ?_
          refine Ops.quiet (Qt.nilCheck rfl) rfl ?_
          refine Ops.quiet (Qt.fieldAddr rfl (tk rfl) rfl) rfl ?_
          refine Ops.quiet (Qt.load_agg rfl (tk rfl) rfl (by repeat (first | exact List.Mem.head _ | apply List.Mem.tail)) (by rfl) (by rfl)) rfl ?_
          refine Ops.eff (Ef.alloc (zk rfl)) rfl ?_
          rintro _ _ ⟨b11, rfl, rfl⟩
          refine Ops.eff (Ef.store rfl rfl (tk rfl) rfl rfl (by repeat (first | exact ones_nil | refine ones_cons rfl ?_)) (by repeat (first | exact Upd.head | apply Upd.tail)) (by rfl)) rfl ?_
          rintro _ _ rfl
          refine Ops.nil ?_
          refine H.then_normal ?_
          refine H.seq ?_
          refine H.region ?_
          refine Ops.quiet (Qt.move rfl) rfl ?_
          refine Ops.quiet (Qt.build (tk rfl) (zk rfl) rfl (by rfl)) rfl ?_
          refine Ops.quiet (Qt.nilCheck rfl) rfl ?_
          refine Ops.quiet (Qt.fieldAddr rfl (tk rfl) rfl) rfl ?_
          refine Ops.eff (Ef.store rfl rfl (tk rfl) rfl rfl (by repeat (first | exact ones_nil | refine ones_cons rfl ?_)) (by repeat (first | exact Upd.head | apply Upd.tail)) (by rfl)) rfl ?_
          rintro _ _ rfl
          refine Ops.nil ?_
          refine H.then_normal ?_
          refine H.seq ?_
          refine H.region ?_
          refine Ops.quiet (Qt.load_agg rfl (tk rfl) rfl (by repeat (first | exact List.Mem.head _ | apply List.Mem.tail)) (by rfl) (by rfl)) rfl ?_
          refine Ops.eff (Ef.store rfl rfl (tk rfl) rfl rfl (by repeat (first | exact ones_nil | refine ones_cons rfl ?_)) (by repeat (first | exact Upd.head | apply Upd.tail)) (by rfl)) rfl ?_
          rintro _ _ rfl
          refine Ops.quiet (Qt.assign rfl) rfl ?_
          refine Ops.quiet (Qt.assign rfl) rfl ?_
          refine Ops.nil ?_
          refine H.then_normal ?_
          refine H.ret ?_
          have e1 : replyF code ls sp = ⟨0, [], sp.n, true, 0⟩ := by
            unfold replyF
            rw [if_neg (by rw [g24']; simp only [Bool.true_eq_false, false_or]; intro h; exact h.2 h41), if_neg (by rw [h64]; simp)]
          rw [e1]
          refine (H.ends_to (cs' := replyR b 0 [] :: fr) rfl (.cons (.agg rfl (tk rfl) rfl (by repeat (first | exact List.Mem.head _ | apply List.Mem.tail)) (by rfl) (by rfl)) (.cons (.tmp rfl) (.cons (.tmp rfl) .nil))) (fun w hw => ?_) ?_)
          · refine replyR_mk (A := none) (n := 0) (c := 0) (ls := []) (Own.perm (.swap _ _ _) (Own.nil_osl 9 (Own.sub ?_ hw))); repeat (first | exact List.Sublist.refl _ | exact List.nil_sublist _ | apply List.Sublist.cons_cons | apply List.Sublist.cons)
          · exact ⟨A57, rn + 1, c57, rfl, rfl⟩
    · have g32' := g32
      try simp only [decide_eq_true_eq, decide_eq_false_iff_not, beq_iff_eq, beq_eq_false_iff_ne, bne_iff_ne, ne_eq, Bool.not_eq_true', Bool.not_eq_false', bne_eq_false_iff_eq, Bool.not_eq_eq_eq_not, Bool.not_true, Bool.not_false] at g32'
      refine Ops.guard_no rfl rfl rfl rfl g32 ?_
      refine Ops.guard_no rfl rfl rfl rfl g32 ?_
      refine Ops.guard_no rfl rfl rfl rfl g32 ?_
      refine Ops.guard_no rfl rfl rfl rfl g32 ?_
      refine Ops.guard_no rfl rfl rfl rfl g32 ?_
      refine Ops.guard_no rfl rfl rfl rfl g32 ?_
      refine Ops.guard_yes rfl rfl rfl rfl g24 ?_
      refine Ops.quiet (Qt.pick_f rfl rfl g32) rfl ?_
      refine Ops.quiet (Qt.pick_f rfl rfl g24) rfl ?_
      refine Ops.nil ?_
      refine H.then_normal ?_
      refine H.cond_false rfl (by rfl) ?_
      refine H.skip ?_
      refine H.then_normal ?_
      refine H.seq ?_
      refine H.region ?_
      refine Ops.quiet (Qt.move rfl) rfl ?_
      refine Ops.quiet (Qt.move rfl) rfl ?_
      refine Ops.quiet (Qt.move rfl) rfl ?_
      refine Ops.quiet (Qt.move rfl) rfl ?_
      refine Ops.quiet (Qt.nilCheck rfl) rfl ?_
      refine Ops.quiet (Qt.fieldAddr rfl (tk rfl) rfl) rfl ?_
      refine Ops.quiet (Qt.fieldAddr rfl (tk rfl) rfl) rfl ?_
      refine Ops.quiet (Qt.load rfl (tk rfl) rfl (by repeat (first | exact List.Mem.head _ | apply List.Mem.tail)) (by rfl)) rfl ?_
      refine Ops.quiet (Qt.move rfl) rfl ?_
      refine Ops.eff (Ef.buildSlice (tk rfl) (tk rfl) rfl (zk rfl) rfl rfl rfl (by repeat (first | exact ones_nil | refine ones_cons rfl ?_))) rfl ?_
      rintro _ _ ⟨A56, c56, rfl, rfl⟩
      refine Ops.eff (Ef.append1 (f := str) (l := ls) (b := sp.text) rfl rfl (tk rfl) (tk rfl) rfl (zk rfl) (by repeat (first | assumption | exact Reads.of_head | apply Reads.tail)) (by intro _ _; repeat (first | exact Upd.head | apply Upd.tail)) (fun _ => rfl) (by dsimp only; omega) (by simp only [maxLen]; omega)) rfl ?_
      rintro _ _ ⟨A57, c57, rfl, rfl⟩
      refine Ops.quiet (Qt.nilCheck rfl) rfl ?_
      refine Ops.quiet (Qt.fieldAddr rfl (tk rfl) rfl) rfl ?_
      refine Ops.quiet (Qt.fieldAddr rfl (tk rfl) rfl) rfl ?_
      refine Ops.eff (Ef.store rfl rfl (tk rfl) rfl rfl (by repeat (first | exact ones_nil | refine ones_cons rfl ?_)) (by repeat (first | exact Upd.head | apply Upd.tail)) (by rfl)) rfl ?_
      rintro _ _ rfl
      refine Ops.quiet (Qt.nilCheck rfl) rfl ?_
      refine Ops.quiet (Qt.fieldAddr rfl (tk rfl) rfl) rfl ?_
      refine Ops.quiet (Qt.fieldAddr rfl (tk rfl) rfl) rfl ?_
      refine Ops.eff (Ef.store rfl rfl (tk rfl) rfl rfl (by repeat (first | exact ones_nil | refine ones_cons rfl ?_)) (by repeat (first | exact Upd.head | apply Upd.tail)) (by rfl)) rfl ?_
      rintro _ _ rfl
      refine Ops.nil ?_
      refine H.then_normal ?_
      refine H.seq ?_
      refine H.seq ?_
      refine H.region ?_
      refine Ops.quiet (Qt.move rfl) rfl ?_
      refine Ops.nil ?_
      refine H.then_normal ?_
      refine H.cond rfl (fun h64 => ?_) (fun h64 => ?_)
      · try simp only [decide_eq_true_eq, decide_eq_false_iff_not, beq_iff_eq, beq_eq_false_iff_ne, bne_iff_ne, ne_eq, Bool.not_eq_true', Bool.not_eq_false', bne_eq_false_iff_eq, Bool.not_eq_eq_eq_not, Bool.not_true, Bool.not_false] at h64
        refine H.seq ?_
        refine H.region ?_
        refine Ops.quiet (Qt.build (tk rfl) (zk rfl) rfl (by rfl)) rfl ?_
        refine Ops.eff (Ef.store rfl rfl (tk rfl) rfl rfl (by repeat (first | exact ones_nil | refine ones_cons rfl ?_)) (by repeat (first | exact Upd.head | apply Upd.tail)) (by rfl)) rfl ?_
        rintro _ _ rfl
        refine Ops.quiet (Qt.assign rfl) rfl ?_
        refine Ops.quiet (Qt.assign rfl) rfl ?_
        refine Ops.nil ?_
        refine H.then_normal ?_
        refine H.ret ?_
        refine H.then_ret ?_
        have e1 : replyF code ls sp = ⟨sp.n, ls ++ [sp.text], 0, false, 0⟩ := by
          unfold replyF
          rw [if_neg (by rw [g24']; simp only [Bool.true_eq_false, false_or]; intro h; omega), if_pos h64]
        rw [e1]
        refine (H.ends_to (cs' := replyR b sp.n (ls ++ [sp.text]) :: fr) rfl (.cons (.agg rfl (tk rfl) rfl (by repeat (first | exact List.Mem.head _ | apply List.Mem.tail)) (by rfl) (by rfl)) (.cons (.tmp rfl) (.cons (.tmp rfl) .nil))) (fun w hw => ?_) ?_)
        · refine replyR_mk (A := A57) (n := rn + 1) (c := c57) (Own.sub ?_ hw); repeat (first | exact List.Sublist.refl _ | exact List.nil_sublist _ | apply List.Sublist.cons_cons | apply List.Sublist.cons)
        · exact ⟨none, 0, 0, rfl, rfl⟩
      · try simp only [decide_eq_true_eq, decide_eq_false_iff_not, beq_iff_eq, beq_eq_false_iff_ne, bne_iff_ne, ne_eq, Bool.not_eq_true', Bool.not_eq_false', bne_eq_false_iff_eq, Bool.not_eq_eq_eq_not, Bool.not_true, Bool.not_false] at h64
        refine H.skip ?_
        refine H.then_normal ?_
        refine H.seq ?_
        refine H.region ?_
        refine Ops.quiet (Qt.move rfl) rfl ?_
        refine Ops.quiet (Qt.nilCheck rfl) rfl ?_
        refine Ops.quiet (Qt.fieldAddr rfl (tk rfl) rfl) rfl ?_
        refine Ops.quiet (Qt.load_agg rfl (tk rfl) rfl (by repeat (first | exact List.Mem.head _ | apply List.Mem.tail)) (by rfl) (by rfl)) rfl ?_
        refine Ops.eff (Ef.alloc (zk rfl)) rfl ?_
        rintro _ _ ⟨b11, rfl, rfl⟩
        refine Ops.eff (Ef.store rfl rfl (tk rfl) rfl rfl (by repeat (first | exact ones_nil | refine ones_cons rfl ?_)) (by repeat (first | exact Upd.head | apply Upd.tail)) (by rfl)) rfl ?_
        rintro _ _ rfl
        refine Ops.nil ?_
        refine H.then_normal ?_
        refine H.seq ?_
        refine H.region ?_
        refine Ops.quiet (Qt.move rfl) rfl ?_
        refine Ops.quiet (Qt.build (tk rfl) (zk rfl) rfl (by rfl)) rfl ?_
        refine Ops.quiet (Qt.nilCheck rfl) rfl ?_
        refine Ops.quiet (Qt.fieldAddr rfl (tk rfl) rfl) rfl ?_
        refine Ops.eff (Ef.store rfl rfl (tk rfl) rfl rfl (by repeat (first | exact ones_nil | refine ones_cons rfl ?_)) (by repeat (first | exact Upd.head | apply Upd.tail)) (by rfl)) rfl ?_
        rintro _ _ rfl
        refine Ops.nil ?_
        refine H.then_normal ?_
        refine H.seq ?_
        refine H.region ?_
        refine Ops.quiet (Qt.load_agg rfl (tk rfl) rfl (by repeat (first | exact List.Mem.head _ | apply List.Mem.tail)) (by rfl) (by rfl)) rfl ?_
        refine Ops.eff (Ef.store rfl rfl (tk rfl) rfl rfl (by repeat (first | exact ones_nil | refine ones_cons rfl ?_)) (by repeat (first | exact Upd.head | apply Upd.tail)) (by rfl)) rfl ?_
        rintro _ _ rfl
        refine Ops.quiet (Qt.assign rfl) rfl ?_
        refine Ops.quiet (Qt.assign rfl) rfl ?_
        refine Ops.nil ?_
        refine H.then_normal ?_
        refine H.ret ?_
        have e1 : replyF code ls sp = ⟨0, [], sp.n, true, 0⟩ := by
          unfold replyF
          rw [if_neg (by rw [g24']; simp only [Bool.true_eq_false, false_or]; intro h; omega), if_neg (by rw [h64]; simp)]
        rw [e1]
        refine (H.ends_to (cs' := replyR b 0 [] :: fr) rfl (.cons (.agg rfl (tk rfl) rfl (by repeat (first | exact List.Mem.head _ | apply List.Mem.tail)) (by rfl) (by rfl)) (.cons (.tmp rfl) (.cons (.tmp rfl) .nil))) (fun w hw => ?_) ?_)
        · refine replyR_mk (A := none) (n := 0) (c := 0) (ls := []) (Own.perm (.swap _ _ _) (Own.nil_osl 9 (Own.sub ?_ hw))); repeat (first | exact List.Sublist.refl _ | exact List.nil_sublist _ | apply List.Sublist.cons_cons | apply List.Sublist.cons)
        · exact ⟨A57, rn + 1, c57, rfl, rfl⟩
  · have g24' := g24
    try simp only [decide_eq_true_eq, decide_eq_false_iff_not, beq_iff_eq, beq_eq_false_iff_ne, bne_iff_ne, ne_eq, Bool.not_eq_true', Bool.not_eq_false', bne_eq_false_iff_eq, Bool.not_eq_eq_eq_not, Bool.not_true, Bool.not_false] at g24'
    refine Ops.guard_no rfl rfl rfl rfl g24 ?_
    refine Ops.guard_no rfl rfl rfl rfl g24 ?_
    refine Ops.guard_no rfl rfl rfl rfl g24 ?_
    refine Ops.guard_no rfl rfl rfl rfl g24 ?_
    refine Ops.guard_no rfl rfl rfl rfl g24 ?_
    refine Ops.guard_no rfl rfl rfl rfl g24 ?_
    refine Ops.guard_no rfl rfl rfl rfl g24 ?_
    refine Ops.guard_un rfl rfl rfl rfl ?_
    refine Ops.guard_un rfl rfl rfl rfl ?_
    refine Ops.guard_un rfl rfl rfl rfl ?_
    refine Ops.guard_un rfl rfl rfl rfl ?_
    refine Ops.guard_un rfl rfl rfl rfl ?_
    refine Ops.guard_un rfl rfl rfl rfl ?_
    refine Ops.guard_un rfl rfl rfl rfl ?_
    refine Ops.guard_no rfl rfl rfl rfl g24 ?_
    refine Ops.quiet (Qt.pick_t rfl rfl g24) rfl ?_
    refine Ops.nil ?_
    refine H.then_normal ?_
    refine H.cond_true rfl (by rfl) ?_
    refine H.seq ?_
    refine H.region ?_
    refine Ops.quiet (Qt.move rfl) rfl ?_
    refine Ops.quiet (Qt.build (tk rfl) (zk rfl) rfl (by rfl)) rfl ?_
    refine Ops.quiet (Qt.nilCheck rfl) rfl ?_
    refine Ops.quiet (Qt.fieldAddr rfl (tk rfl) rfl) rfl ?_
    refine Ops.eff (Ef.store rfl rfl (tk rfl) rfl rfl (by repeat (first | exact ones_nil | refine ones_cons rfl ?_)) (by repeat (first | exact Upd.head | apply Upd.tail)) (by rfl)) rfl ?_
    rintro _ _ rfl
    refine Ops.nil ?_
    refine H.then_normal ?_
    refine H.seq ?_
    refine H.region ?_
    refine Ops.quiet (Qt.build (tk rfl) (zk rfl) rfl (by rfl)) rfl ?_
    refine Ops.eff (Ef.store rfl rfl (tk rfl) rfl rfl (by repeat (first | exact ones_nil | refine ones_cons rfl ?_)) (by repeat (first | exact Upd.head | apply Upd.tail)) (by rfl)) rfl ?_
    rintro _ _ rfl
    refine Ops.quiet (Qt.assign rfl) rfl ?_
    refine Ops.quiet (Qt.assign rfl) rfl ?_
    refine Ops.nil ?_
    refine H.then_normal ?_
    refine H.ret ?_
    refine H.then_ret ?_
    have e1 : replyF code ls sp = ⟨0, [], 0, false, 2⟩ := by
      unfold replyF
      rw [if_pos (.inl g24')]
    rw [e1]
    refine (H.ends_to (cs' := replyR b 0 [] :: fr) rfl (.cons (.agg rfl (tk rfl) rfl (by repeat (first | exact List.Mem.head _ | apply List.Mem.tail)) (by rfl) (by rfl)) (.cons (.tmp rfl) (.cons (.tmp rfl) .nil))) (fun w hw => ?_) ?_)
    · refine replyR_mk (A := none) (n := 0) (c := 0) (ls := []) (Own.perm (.swap _ _ _) (Own.nil_osl 9 (Own.sub ?_ hw))); repeat (first | exact List.Sublist.refl _ | exact List.nil_sublist _ | apply List.Sublist.cons_cons | apply List.Sublist.cons)
    · exact ⟨none, 0, 0, rfl, rfl⟩
end Go.Proofs.YtimldpbddkhedaaDoor
