/- The document's answer for the session with the next hop: its plain parts. -/
import Derived.Test.YtimldpbddkhedaaDoorSnw
namespace Go.Proofs.YtimldpbddkhedaaDoor
open Go Go.RowKit
set_option maxRecDepth 100000
set_option linter.unusedVariables false
set_option linter.unusedSimpArgs false
attribute [local irreducible] Go.wpList Go.Code.wp Go.Exit.then Go.Exit.inBlock Go.Exit.noGoto Ends blk osl oblk LoopI Own Spec
theorem indexByte_contains : ∀ (s : Bs) (x : UInt8), decide (0 ≤ Lib.indexByte s x) = s.contains x
  | [], x => by simp [Lib.indexByte]
  | b :: l, x => by
    have ih := indexByte_contains l x
    have hge := Lib.indexByte_ge l x
    unfold Lib.indexByte
    by_cases hb : b = x
    · subst hb; simp
    · have hb' : (b == x) = false := by simpa using hb
      have hb2 : (x == b) = false := by simpa using fun e => hb e.symm
      rw [List.contains_cons, hb2, Bool.false_or, ← ih, hb']
      simp only [Bool.false_eq_true, if_false]
      by_cases h1 : Lib.indexByte l x = -1
      · simp [h1]
      · have h2 : (Lib.indexByte l x == -1) = false := by simpa using h1
        rw [h2]
        simp only [Bool.false_eq_true, if_false]
        exact decide_eq_decide.2 (by omega)
theorem contains_snoc (x : UInt8) (a : Bs) (y : UInt8) : (a ++ [y]).contains x = (a.contains x || (y == x)) := by
  have h : (x == y) = (y == x) := Bool.eq_iff_iff.2 ⟨fun h => by rw [beq_iff_eq] at h ⊢; exact h.symm, fun h => by rw [beq_iff_eq] at h ⊢; exact h.symm⟩
  simp only [List.contains_eq_any_beq, List.any_append, List.any_cons, List.any_nil, Bool.or_false, h]
theorem contains_take_succ (s : Bs) (x : UInt8) (k : Nat) (h : k < s.length) : (s.take (k + 1)).contains x = ((s.take k).contains x || (s.getD k 0 == x)) := by
  rw [List.take_succ_eq_append_getElem h, contains_snoc]
  simp [List.getD_eq_getElem?_getD, h]
theorem u8_eq {a b : UInt8} (h : (a.toNat : Int) = b.toNat) : a = b := UInt8.toNat_inj.1 (by omega)
theorem getD_mem' {s : Bs} {k : Nat} (h : k < s.length) : s.getD k 0 ∈ s := by
  rw [List.getD_eq_getElem?_getD, List.getElem?_eq_getElem h]; simp
theorem spec_rin (w0 : World) (s : Bs) (x : UInt8) (cs : List SProp) (hl : s.length ≤ 4611686018427387904) : Spec Tryd.prog w0 35 [str s, u8v x] cs (fun v cs' => v = bol (s.contains x) ∧ cs' = cs) := by
  refine Spec.of_body Tryd.func35 rfl Tryd.ntmps35 rfl ?_
  refine H.seq ?_
  refine H.region ?_
  refine Ops.quiet (Qt.assign rfl) rfl ?_
  refine Ops.nil ?_
  refine H.then_normal ?_
  refine H.seq ?_
  refine H.seq ?_
  refine H.region ?_
  refine Ops.quiet (Qt.assign rfl) rfl ?_
  refine Ops.nil ?_
  refine H.then_normal ?_
  refine H.block ?_
  refine H.loop (X := Nat) (fun k => [(0, str s), (1, u8v x), (5, num k)]) (fun k => cs) (fun k => k ≤ s.length ∧ (s.take k).contains x = false) (fun k => s.length - k) 0 ⟨Nat.zero_le _, by simp⟩ (by repeat (first | exact trivial | refine ⟨rfl, ?_⟩)) (fun w hw => hw) ?_
  intro k ⟨hk, hc⟩
  refine H.seq ?_
  refine H.seq ?_
  refine H.region ?_
  refine Ops.quiet (Qt.move rfl) rfl ?_
  refine Ops.quiet (Qt.move rfl) rfl ?_
  refine Ops.quiet (Qt.len_str rfl (tk rfl)) rfl ?_
  refine Ops.quiet (Qt.lss rfl rfl) rfl ?_
  refine Ops.nil ?_
  refine H.then_normal ?_
  refine H.cond rfl (fun h9 => ?_) (fun h9 => ?_)
  · try simp only [decide_eq_true_eq, decide_eq_false_iff_not, beq_iff_eq, beq_eq_false_iff_ne, bne_iff_ne, ne_eq, Bool.not_eq_true', Bool.not_eq_false', bne_eq_false_iff_eq, Bool.not_eq_eq_eq_not, Bool.not_true, Bool.not_false] at h9
    have hk' : k < s.length := by omega
    have hs := contains_take_succ s x k hk'
    refine H.skip ?_
    refine H.then_normal ?_
    refine H.seq ?_
    refine H.block ?_
    refine H.seq ?_
    refine H.region ?_
    refine Ops.quiet (Qt.move rfl) rfl ?_
    refine Ops.quiet (Qt.move rfl) rfl ?_
    refine Ops.quiet (Qt.sidx rfl rfl (tk rfl) (by omega) (by omega)) rfl ?_
    refine Ops.quiet (Qt.move rfl) rfl ?_
    refine Ops.quiet (Qt.eql rfl rfl) rfl ?_
    refine Ops.nil ?_
    refine H.then_normal ?_
    refine H.cond rfl (fun h16 => ?_) (fun h16 => ?_)
    · try simp only [decide_eq_true_eq, decide_eq_false_iff_not, beq_iff_eq, beq_eq_false_iff_ne, bne_iff_ne, ne_eq, Bool.not_eq_true', Bool.not_eq_false', bne_eq_false_iff_eq, Bool.not_eq_eq_eq_not, Bool.not_true, Bool.not_false] at h16
      refine H.seq ?_
      refine H.region ?_
      refine Ops.quiet (Qt.assign rfl) rfl ?_
      refine Ops.nil ?_
      refine H.then_normal ?_
      refine H.ret ?_
      refine H.blk_ret ?_
      refine H.then_ret ?_
      refine H.then_ret ?_
      refine H.blk_ret ?_
      refine H.then_ret ?_
      have hx : s.getD k 0 = x := u8_eq h16
      refine (H.ends rfl (.cons (.tmp rfl) .nil) ?_)
      have e1 : s.contains x = true := List.contains_iff_mem.2 (hx ▸ getD_mem' hk')
      exact ⟨by rw [e1]; rfl, rfl⟩
    · try simp only [decide_eq_true_eq, decide_eq_false_iff_not, beq_iff_eq, beq_eq_false_iff_ne, bne_iff_ne, ne_eq, Bool.not_eq_true', Bool.not_eq_false', bne_eq_false_iff_eq, Bool.not_eq_eq_eq_not, Bool.not_true, Bool.not_false] at h16
      refine H.skip ?_
      refine H.blk_normal ?_
      refine H.then_normal ?_
      refine H.region ?_
      refine Ops.quiet (Qt.move rfl) rfl ?_
      refine Ops.quiet (Qt.add64 rfl rfl (by omega) (by omega)) rfl ?_
      refine Ops.quiet (Qt.assign rfl) rfl ?_
      refine Ops.nil ?_
      refine H.then_normal ?_
      have hx : (s.getD k 0 == x) = false := by
        rw [beq_eq_false_iff_ne]; intro h; exact h16 (by show ((s.getD k 0).toNat : Int) = _; rw [h])
      refine H.round (k + 1) ⟨by omega, by rw [hs, hc, hx]; rfl⟩ (by omega) (by repeat (first | exact trivial | refine ⟨rfl, ?_⟩)) (fun w hw => hw)
  · try simp only [decide_eq_true_eq, decide_eq_false_iff_not, beq_iff_eq, beq_eq_false_iff_ne, bne_iff_ne, ne_eq, Bool.not_eq_true', Bool.not_eq_false', bne_eq_false_iff_eq, Bool.not_eq_eq_eq_not, Bool.not_true, Bool.not_false] at h9
    refine H.exit ?_
    refine H.then_exit ?_
    refine H.then_exit ?_
    refine H.blk_hit ?_
    refine H.then_normal ?_
    refine H.seq ?_
    refine H.region ?_
    refine Ops.quiet (Qt.assign rfl) rfl ?_
    refine Ops.nil ?_
    refine H.then_normal ?_
    refine H.ret ?_
    have e1 : s.take k = s := List.take_of_length_le (by omega)
    rw [e1] at hc
    refine (H.ends rfl (.cons (.tmp rfl) .nil) ?_)
    exact ⟨by rw [hc]; rfl, rfl⟩
theorem spec_rsize (w0 : World) (l : List Bs) {A : Option Addr} {n c : Nat} (cs : List SProp) (hr : Reads w0 cs A n c (l.map str)) (hs : sizeL l ≤ 4611686018427387904) :
    Spec Tryd.prog w0 36 [.slice A n c] cs (fun v cs' => v = num (sizeL l) ∧ cs' = cs) := by
  refine Spec.of_body Tryd.func36 rfl Tryd.ntmps36 rfl ?_
  refine H.fact (fun w hw => (hr w hw).facts) fun ⟨hl, hcap, hmax, hnil⟩ => ?_
  simp only [List.length_map] at hl
  refine H.seq ?_
  refine H.region ?_
  refine Ops.quiet (Qt.assign rfl) rfl ?_
  refine Ops.nil ?_
  refine H.then_normal ?_
  refine H.seq ?_
  refine H.region ?_
  refine Ops.quiet (Qt.assign rfl) rfl ?_
  refine Ops.nil ?_
  refine H.then_normal ?_
  refine H.seq ?_
  refine H.seq ?_
  refine H.region ?_
  refine Ops.quiet (Qt.assign rfl) rfl ?_
  refine Ops.nil ?_
  refine H.then_normal ?_
  refine H.block ?_
  refine H.loop (X := Nat) (fun k => [(0, .slice A n c), (3, num (sizeL (l.take k))), (4, num k)]) (fun k => cs) (fun k => k ≤ n) (fun k => n - k) 0 (Nat.zero_le _) (by repeat (first | exact trivial | refine ⟨rfl, ?_⟩)) (fun w hw => hw) ?_
  intro k hk
  refine H.seq ?_
  refine H.seq ?_
  refine H.region ?_
  refine Ops.quiet (Qt.move rfl) rfl ?_
  refine Ops.quiet (Qt.move rfl) rfl ?_
  refine Ops.quiet (Qt.len_sl (ats := #[]) rfl (tk rfl)) rfl ?_
  refine Ops.quiet (Qt.lss rfl rfl) rfl ?_
  refine Ops.nil ?_
  refine H.then_normal ?_
  refine H.cond rfl (fun h8 => ?_) (fun h8 => ?_)
  · try simp only [decide_eq_true_eq, decide_eq_false_iff_not, beq_iff_eq, beq_eq_false_iff_ne, bne_iff_ne, ne_eq, Bool.not_eq_true', Bool.not_eq_false', bne_eq_false_iff_eq, Bool.not_eq_eq_eq_not, Bool.not_true, Bool.not_false] at h8
    have hk' : k < l.length := by omega
    obtain ⟨hz1, hz2⟩ := sizeL_take l k hk'
    have hz3 : ((sizeL (l.take (k + 1)) : Nat) : Int) = (sizeL (l.take k) : Int) + ((l.getD (k : Int).toNat []).length : Int) + 2 := by show _ = (sizeL (l.take k) : Int) + ((l.getD k []).length : Int) + 2; omega
    refine H.skip ?_
    refine H.then_normal ?_
    refine H.seq ?_
    refine H.block ?_
    refine H.region ?_
    refine Ops.quiet (Qt.move rfl) rfl ?_
    refine Ops.quiet (Qt.move rfl) rfl ?_
    refine Ops.quiet (Qt.move rfl) rfl ?_
    refine Ops.quiet (Qt.indexAddr rfl rfl (tk rfl) (tk rfl) rfl (by repeat (first | assumption | exact Reads.of_head | apply Reads.tail)) (by omega) (by omega)) rfl ?_
    refine Ops.quiet (Qt.load_map ([] : List UInt8) rfl (tk rfl) rfl (by repeat (first | assumption | exact Reads.of_head | apply Reads.tail)) (by omega)) rfl ?_
    refine Ops.quiet (Qt.len_str rfl (tk rfl)) rfl ?_
    refine Ops.quiet (Qt.add64 rfl rfl (by omega) (by omega)) rfl ?_
    refine Ops.quiet (Qt.add64 rfl rfl (by omega) (by omega)) rfl ?_
    refine Ops.quiet (Qt.assign rfl) rfl ?_
    refine Ops.nil ?_
    refine H.blk_normal ?_
    refine H.then_normal ?_
    refine H.region ?_
    refine Ops.quiet (Qt.move rfl) rfl ?_
    refine Ops.quiet (Qt.add64 rfl rfl (by omega) (by omega)) rfl ?_
    refine Ops.quiet (Qt.assign rfl) rfl ?_
    refine Ops.nil ?_
    refine H.then_normal ?_
    refine H.round (k + 1) (by omega) (by omega) (by rw [hz3]; repeat (first | exact trivial | refine ⟨rfl, ?_⟩)) (fun w hw => hw)
  · try simp only [decide_eq_true_eq, decide_eq_false_iff_not, beq_iff_eq, beq_eq_false_iff_ne, bne_iff_ne, ne_eq, Bool.not_eq_true', Bool.not_eq_false', bne_eq_false_iff_eq, Bool.not_eq_eq_eq_not, Bool.not_true, Bool.not_false] at h8
    refine H.exit ?_
    refine H.then_exit ?_
    refine H.then_exit ?_
    refine H.blk_hit ?_
    refine H.then_normal ?_
    refine H.seq ?_
    refine H.region ?_
    refine Ops.quiet (Qt.move rfl) rfl ?_
    refine Ops.quiet (Qt.assign rfl) rfl ?_
    refine Ops.nil ?_
    refine H.then_normal ?_
    refine H.ret ?_
    have e1 : l.take k = l := List.take_of_length_le (by omega)
    refine (H.ends rfl (.cons (.tmp rfl) .nil) ?_)
    exact ⟨by rw [e1]; rfl, rfl⟩
theorem okB_eq (s : Bs) : okB s = !(s.contains 0 || s.contains 10 || s.contains 13 || decide (997 < (s.length : Int))) := by
  unfold okB
  rw [indexByte_contains, indexByte_contains, indexByte_contains]
theorem spec_rgood (w0 : World) (l : List Bs) {A : Option Addr} {n c : Nat} (cs : List SProp) (hr : Reads w0 cs A n c (l.map str)) (hn : l.length ≤ 100000000000000) (hs : ∀ s ∈ l, s.length ≤ 4611686018427387904) :
    Spec Tryd.prog w0 17 [.slice A n c] cs (fun v cs' => v = bol (goodB l) ∧ cs' = cs) := by
  refine Spec.of_body Tryd.func17 rfl Tryd.ntmps17 rfl ?_
  refine H.fact (fun w hw => (hr w hw).facts) fun ⟨hl, hcap, hmax, hnil⟩ => ?_
  simp only [List.length_map] at hl
  refine H.seq ?_
  refine H.region ?_
  refine Ops.quiet (Qt.assign rfl) rfl ?_
  refine Ops.nil ?_
  refine H.then_normal ?_
  refine H.seq ?_
  refine H.seq ?_
  refine H.region ?_
  refine Ops.quiet (Qt.assign rfl) rfl ?_
  refine Ops.nil ?_
  refine H.then_normal ?_
  refine H.block ?_
  refine H.loop (X := Nat) (fun k => [(0, .slice A n c), (3, num k)]) (fun k => cs) (fun k => k ≤ n ∧ ∀ j, j < k → okB (l.getD j []) = true) (fun k => n - k) 0 ⟨Nat.zero_le _, fun j h => absurd h (Nat.not_lt_zero _)⟩ (by repeat (first | exact trivial | refine ⟨rfl, ?_⟩)) (fun w hw => hw) ?_
  intro k ⟨hk, hg⟩
  refine H.seq ?_
  refine H.seq ?_
  refine H.region ?_
  refine Ops.quiet (Qt.move rfl) rfl ?_
  refine Ops.quiet (Qt.move rfl) rfl ?_
  refine Ops.quiet (Qt.len_sl (ats := #[]) rfl (tk rfl)) rfl ?_
  refine Ops.quiet (Qt.lss rfl rfl) rfl ?_
  refine Ops.nil ?_
  refine H.then_normal ?_
  refine H.cond rfl (fun h7 => ?_) (fun h7 => ?_)
  · try simp only [decide_eq_true_eq, decide_eq_false_iff_not, beq_iff_eq, beq_eq_false_iff_ne, bne_iff_ne, ne_eq, Bool.not_eq_true', Bool.not_eq_false', bne_eq_false_iff_eq, Bool.not_eq_eq_eq_not, Bool.not_true, Bool.not_false] at h7
    have hk' : k < l.length := by omega
    have hmem : l.getD k [] ∈ l := by rw [List.getD_eq_getElem?_getD, List.getElem?_eq_getElem hk']; simp
    obtain ⟨s, hs1⟩ : ∃ s, s = l.getD (k : Int).toNat [] := ⟨_, rfl⟩
    have hs' : s = l.getD k [] := hs1
    have hsl := hs _ hmem
    rw [← hs'] at hsl
    refine H.skip ?_
    refine H.then_normal ?_
    refine H.seq ?_
    refine H.block ?_
    refine H.seq ?_
    refine H.region ?_
    refine Ops.quiet (Qt.move rfl) rfl ?_
    refine Ops.quiet (Qt.move rfl) rfl ?_
    refine Ops.quiet (Qt.indexAddr rfl rfl (tk rfl) (tk rfl) rfl (by repeat (first | assumption | exact Reads.of_head | apply Reads.tail)) (by omega) (by omega)) rfl ?_
    refine Ops.quiet (Qt.load_map ([] : List UInt8) rfl (tk rfl) rfl (by repeat (first | assumption | exact Reads.of_head | apply Reads.tail)) (by omega)) rfl ?_
    refine Ops.quiet (Qt.len_str rfl (tk rfl)) rfl ?_
    refine Ops.quiet (Qt.gtr rfl rfl) rfl ?_
    refine Ops.quiet (Qt.move rfl) rfl ?_
    refine Ops.guard rfl rfl rfl rfl (fun g16 => ?_) (fun g16 => ?_)
    · have g16' := g16
      try simp only [decide_eq_true_eq, decide_eq_false_iff_not, beq_iff_eq, beq_eq_false_iff_ne, bne_iff_ne, ne_eq, Bool.not_eq_true', Bool.not_eq_false', bne_eq_false_iff_eq, Bool.not_eq_eq_eq_not, Bool.not_true, Bool.not_false] at g16'
      refine Ops.quiet (Qt.move rfl) rfl ?_
      refine Ops.guard_yes rfl rfl rfl rfl g16 ?_
      refine Ops.quiet (Qt.move rfl) rfl ?_
      refine Ops.guard_yes rfl rfl rfl rfl g16 ?_
      refine Ops.quiet (Qt.indexAddr rfl rfl (tk rfl) (tk rfl) rfl (by repeat (first | assumption | exact Reads.of_head | apply Reads.tail)) (by omega) (by omega)) rfl ?_
      refine Ops.guard_yes rfl rfl rfl rfl g16 ?_
      refine Ops.quiet (Qt.load_map ([] : List UInt8) rfl (tk rfl) rfl (by repeat (first | assumption | exact Reads.of_head | apply Reads.tail)) (by omega)) rfl ?_
      refine Ops.guard_yes rfl rfl rfl rfl g16 ?_
      refine Ops.eff (Ef.call (fok fab_all rfl Tryd.func35 rfl) rfl (spec_rin w0 (l.getD (k : Int).toNat []) 0 _ (by rw [← hs1]; omega))) rfl ?_
      rintro _ _ ⟨rfl, rfl⟩
      refine Ops.quiet (Qt.pick_f rfl rfl g16) rfl ?_
      refine Ops.quiet (Qt.move rfl) rfl ?_
      refine Ops.guard rfl rfl rfl rfl (fun g23 => ?_) (fun g23 => ?_)
      · have g23' := g23
        try simp only [decide_eq_true_eq, decide_eq_false_iff_not, beq_iff_eq, beq_eq_false_iff_ne, bne_iff_ne, ne_eq, Bool.not_eq_true', Bool.not_eq_false', bne_eq_false_iff_eq, Bool.not_eq_eq_eq_not, Bool.not_true, Bool.not_false] at g23'
        refine Ops.quiet (Qt.move rfl) rfl ?_
        refine Ops.guard_yes rfl rfl rfl rfl g23 ?_
        refine Ops.quiet (Qt.move rfl) rfl ?_
        refine Ops.guard_yes rfl rfl rfl rfl g23 ?_
        refine Ops.quiet (Qt.indexAddr rfl rfl (tk rfl) (tk rfl) rfl (by repeat (first | assumption | exact Reads.of_head | apply Reads.tail)) (by omega) (by omega)) rfl ?_
        refine Ops.guard_yes rfl rfl rfl rfl g23 ?_
        refine Ops.quiet (Qt.load_map ([] : List UInt8) rfl (tk rfl) rfl (by repeat (first | assumption | exact Reads.of_head | apply Reads.tail)) (by omega)) rfl ?_
        refine Ops.guard_yes rfl rfl rfl rfl g23 ?_
        refine Ops.eff (Ef.call (fok fab_all rfl Tryd.func35 rfl) rfl (spec_rin w0 (l.getD (k : Int).toNat []) 10 _ (by rw [← hs1]; omega))) rfl ?_
        rintro _ _ ⟨rfl, rfl⟩
        refine Ops.quiet (Qt.pick_f rfl rfl g23) rfl ?_
        refine Ops.quiet (Qt.move rfl) rfl ?_
        refine Ops.guard rfl rfl rfl rfl (fun g30 => ?_) (fun g30 => ?_)
        · have g30' := g30
          try simp only [decide_eq_true_eq, decide_eq_false_iff_not, beq_iff_eq, beq_eq_false_iff_ne, bne_iff_ne, ne_eq, Bool.not_eq_true', Bool.not_eq_false', bne_eq_false_iff_eq, Bool.not_eq_eq_eq_not, Bool.not_true, Bool.not_false] at g30'
          refine Ops.quiet (Qt.move rfl) rfl ?_
          refine Ops.guard_yes rfl rfl rfl rfl g30 ?_
          refine Ops.quiet (Qt.move rfl) rfl ?_
          refine Ops.guard_yes rfl rfl rfl rfl g30 ?_
          refine Ops.quiet (Qt.indexAddr rfl rfl (tk rfl) (tk rfl) rfl (by repeat (first | assumption | exact Reads.of_head | apply Reads.tail)) (by omega) (by omega)) rfl ?_
          refine Ops.guard_yes rfl rfl rfl rfl g30 ?_
          refine Ops.quiet (Qt.load_map ([] : List UInt8) rfl (tk rfl) rfl (by repeat (first | assumption | exact Reads.of_head | apply Reads.tail)) (by omega)) rfl ?_
          refine Ops.guard_yes rfl rfl rfl rfl g30 ?_
          refine Ops.eff (Ef.call (fok fab_all rfl Tryd.func35 rfl) rfl (spec_rin w0 (l.getD (k : Int).toNat []) 13 _ (by rw [← hs1]; omega))) rfl ?_
          rintro _ _ ⟨rfl, rfl⟩
          refine Ops.quiet (Qt.pick_f rfl rfl g30) rfl ?_
          refine Ops.nil ?_
          refine H.then_normal ?_
          refine H.cond rfl (fun h36 => ?_) (fun h36 => ?_)
          · try simp only [decide_eq_true_eq, decide_eq_false_iff_not, beq_iff_eq, beq_eq_false_iff_ne, bne_iff_ne, ne_eq, Bool.not_eq_true', Bool.not_eq_false', bne_eq_false_iff_eq, Bool.not_eq_eq_eq_not, Bool.not_true, Bool.not_false] at h36
            refine H.seq ?_
            refine H.region ?_
            refine Ops.quiet (Qt.assign rfl) rfl ?_
            refine Ops.nil ?_
            refine H.then_normal ?_
            refine H.ret ?_
            refine H.blk_ret ?_
            refine H.then_ret ?_
            refine H.then_ret ?_
            refine H.blk_ret ?_
            refine H.then_ret ?_
            refine (H.ends rfl (.cons (.tmp rfl) .nil) ?_)
            refine ⟨?_, rfl⟩
            have hb : okB s = false := by
              rw [okB_eq, hs1]
              rw [h36]; simp
            rw [goodB_not (hs' ▸ hmem) hb]; rfl
          · try simp only [decide_eq_true_eq, decide_eq_false_iff_not, beq_iff_eq, beq_eq_false_iff_ne, bne_iff_ne, ne_eq, Bool.not_eq_true', Bool.not_eq_false', bne_eq_false_iff_eq, Bool.not_eq_eq_eq_not, Bool.not_true, Bool.not_false] at h36
            refine H.skip ?_
            refine H.blk_normal ?_
            refine H.then_normal ?_
            refine H.region ?_
            refine Ops.quiet (Qt.move rfl) rfl ?_
            refine Ops.quiet (Qt.add64 rfl rfl (by omega) (by omega)) rfl ?_
            refine Ops.quiet (Qt.assign rfl) rfl ?_
            refine Ops.nil ?_
            refine H.then_normal ?_
            refine H.round (k + 1) ⟨by omega, fun j hj => ?_⟩ (by omega) (by repeat (first | exact trivial | refine ⟨rfl, ?_⟩)) (fun w hw => hw)
            rcases Nat.lt_succ_iff_lt_or_eq.1 hj with hj | rfl
            · exact hg j hj
            · rw [← hs', okB_eq, hs1, g23', g30', h36, decide_eq_false g16']; rfl
        · have g30' := g30
          try simp only [decide_eq_true_eq, decide_eq_false_iff_not, beq_iff_eq, beq_eq_false_iff_ne, bne_iff_ne, ne_eq, Bool.not_eq_true', Bool.not_eq_false', bne_eq_false_iff_eq, Bool.not_eq_eq_eq_not, Bool.not_true, Bool.not_false] at g30'
          refine Ops.guard_no rfl rfl rfl rfl g30 ?_
          refine Ops.guard_no rfl rfl rfl rfl g30 ?_
          refine Ops.guard_no rfl rfl rfl rfl g30 ?_
          refine Ops.guard_no rfl rfl rfl rfl g30 ?_
          refine Ops.quiet (Qt.pick_t rfl rfl g30) rfl ?_
          refine Ops.nil ?_
          refine H.then_normal ?_
          refine H.cond_true rfl (by rfl) ?_
          refine H.seq ?_
          refine H.region ?_
          refine Ops.quiet (Qt.assign rfl) rfl ?_
          refine Ops.nil ?_
          refine H.then_normal ?_
          refine H.ret ?_
          refine H.blk_ret ?_
          refine H.then_ret ?_
          refine H.then_ret ?_
          refine H.blk_ret ?_
          refine H.then_ret ?_
          refine (H.ends rfl (.cons (.tmp rfl) .nil) ?_)
          refine ⟨?_, rfl⟩
          have hb : okB s = false := by
            rw [okB_eq, hs1]
            rw [g30']; simp
          rw [goodB_not (hs' ▸ hmem) hb]; rfl
      · have g23' := g23
        try simp only [decide_eq_true_eq, decide_eq_false_iff_not, beq_iff_eq, beq_eq_false_iff_ne, bne_iff_ne, ne_eq, Bool.not_eq_true', Bool.not_eq_false', bne_eq_false_iff_eq, Bool.not_eq_eq_eq_not, Bool.not_true, Bool.not_false] at g23'
        refine Ops.guard_no rfl rfl rfl rfl g23 ?_
        refine Ops.guard_no rfl rfl rfl rfl g23 ?_
        refine Ops.guard_no rfl rfl rfl rfl g23 ?_
        refine Ops.guard_no rfl rfl rfl rfl g23 ?_
        refine Ops.quiet (Qt.pick_t rfl rfl g23) rfl ?_
        refine Ops.quiet (Qt.move rfl) rfl ?_
        refine Ops.guard rfl rfl rfl rfl (fun g30 => ?_) (fun g30 => ?_)
        · have g30' := g30
          try simp only [decide_eq_true_eq, decide_eq_false_iff_not, beq_iff_eq, beq_eq_false_iff_ne, bne_iff_ne, ne_eq, Bool.not_eq_true', Bool.not_eq_false', bne_eq_false_iff_eq, Bool.not_eq_eq_eq_not, Bool.not_true, Bool.not_false] at g30'
          exact Bool.noConfusion g30
        · have g30' := g30
          try simp only [decide_eq_true_eq, decide_eq_false_iff_not, beq_iff_eq, beq_eq_false_iff_ne, bne_iff_ne, ne_eq, Bool.not_eq_true', Bool.not_eq_false', bne_eq_false_iff_eq, Bool.not_eq_eq_eq_not, Bool.not_true, Bool.not_false] at g30'
          refine Ops.guard_no rfl rfl rfl rfl g30 ?_
          refine Ops.guard_no rfl rfl rfl rfl g30 ?_
          refine Ops.guard_no rfl rfl rfl rfl g30 ?_
          refine Ops.guard_no rfl rfl rfl rfl g30 ?_
          refine Ops.quiet (Qt.pick_t rfl rfl g30) rfl ?_
          refine Ops.nil ?_
          refine H.then_normal ?_
          refine H.cond_true rfl (by rfl) ?_
          refine H.seq ?_
          refine H.region ?_
          refine Ops.quiet (Qt.assign rfl) rfl ?_
          refine Ops.nil ?_
          refine H.then_normal ?_
          refine H.ret ?_
          refine H.blk_ret ?_
          refine H.then_ret ?_
          refine H.then_ret ?_
          refine H.blk_ret ?_
          refine H.then_ret ?_
          refine (H.ends rfl (.cons (.tmp rfl) .nil) ?_)
          refine ⟨?_, rfl⟩
          have hb : okB s = false := by
            rw [okB_eq, hs1]
            rw [g23']; simp
          rw [goodB_not (hs' ▸ hmem) hb]; rfl
    · have g16' := g16
      try simp only [decide_eq_true_eq, decide_eq_false_iff_not, beq_iff_eq, beq_eq_false_iff_ne, bne_iff_ne, ne_eq, Bool.not_eq_true', Bool.not_eq_false', bne_eq_false_iff_eq, Bool.not_eq_eq_eq_not, Bool.not_true, Bool.not_false] at g16'
      refine Ops.guard_no rfl rfl rfl rfl g16 ?_
      refine Ops.guard_no rfl rfl rfl rfl g16 ?_
      refine Ops.guard_no rfl rfl rfl rfl g16 ?_
      refine Ops.guard_no rfl rfl rfl rfl g16 ?_
      refine Ops.quiet (Qt.pick_t rfl rfl g16) rfl ?_
      refine Ops.quiet (Qt.move rfl) rfl ?_
      refine Ops.guard rfl rfl rfl rfl (fun g23 => ?_) (fun g23 => ?_)
      · have g23' := g23
        try simp only [decide_eq_true_eq, decide_eq_false_iff_not, beq_iff_eq, beq_eq_false_iff_ne, bne_iff_ne, ne_eq, Bool.not_eq_true', Bool.not_eq_false', bne_eq_false_iff_eq, Bool.not_eq_eq_eq_not, Bool.not_true, Bool.not_false] at g23'
        exact Bool.noConfusion g23
      · have g23' := g23
        try simp only [decide_eq_true_eq, decide_eq_false_iff_not, beq_iff_eq, beq_eq_false_iff_ne, bne_iff_ne, ne_eq, Bool.not_eq_true', Bool.not_eq_false', bne_eq_false_iff_eq, Bool.not_eq_eq_eq_not, Bool.not_true, Bool.not_false] at g23'
        refine Ops.guard_no rfl rfl rfl rfl g23 ?_
        refine Ops.guard_no rfl rfl rfl rfl g23 ?_
        refine Ops.guard_no rfl rfl rfl rfl g23 ?_
        refine Ops.guard_no rfl rfl rfl rfl g23 ?_
        refine Ops.quiet (Qt.pick_t rfl rfl g23) rfl ?_
        refine Ops.quiet (Qt.move rfl) rfl ?_
        refine Ops.guard rfl rfl rfl rfl (fun g30 => ?_) (fun g30 => ?_)
        · have g30' := g30
          try simp only [decide_eq_true_eq, decide_eq_false_iff_not, beq_iff_eq, beq_eq_false_iff_ne, bne_iff_ne, ne_eq, Bool.not_eq_true', Bool.not_eq_false', bne_eq_false_iff_eq, Bool.not_eq_eq_eq_not, Bool.not_true, Bool.not_false] at g30'
          exact Bool.noConfusion g30
        · have g30' := g30
          try simp only [decide_eq_true_eq, decide_eq_false_iff_not, beq_iff_eq, beq_eq_false_iff_ne, bne_iff_ne, ne_eq, Bool.not_eq_true', Bool.not_eq_false', bne_eq_false_iff_eq, Bool.not_eq_eq_eq_not, Bool.not_true, Bool.not_false] at g30'
          refine Ops.guard_no rfl rfl rfl rfl g30 ?_
          refine Ops.guard_no rfl rfl rfl rfl g30 ?_
          refine Ops.guard_no rfl rfl rfl rfl g30 ?_
          refine Ops.guard_no rfl rfl rfl rfl g30 ?_
          refine Ops.quiet (Qt.pick_t rfl rfl g30) rfl ?_
          refine Ops.nil ?_
          refine H.then_normal ?_
          refine H.cond_true rfl (by rfl) ?_
          refine H.seq ?_
          refine H.region ?_
          refine Ops.quiet (Qt.assign rfl) rfl ?_
          refine Ops.nil ?_
          refine H.then_normal ?_
          refine H.ret ?_
          refine H.blk_ret ?_
          refine H.then_ret ?_
          refine H.then_ret ?_
          refine H.blk_ret ?_
          refine H.then_ret ?_
          refine (H.ends rfl (.cons (.tmp rfl) .nil) ?_)
          refine ⟨?_, rfl⟩
          have hb : okB s = false := by
            rw [okB_eq, hs1]
            rw [decide_eq_true g16']; simp
          rw [goodB_not (hs' ▸ hmem) hb]; rfl
  · try simp only [decide_eq_true_eq, decide_eq_false_iff_not, beq_iff_eq, beq_eq_false_iff_ne, bne_iff_ne, ne_eq, Bool.not_eq_true', Bool.not_eq_false', bne_eq_false_iff_eq, Bool.not_eq_eq_eq_not, Bool.not_true, Bool.not_false] at h7
    have hall : ∀ s ∈ l, okB s = true := by
      intro s hs
      obtain ⟨j, hj, rfl⟩ := List.getElem_of_mem hs
      have := hg j (by omega)
      simpa [List.getD_eq_getElem?_getD, hj] using this
    have hz := sizeL_good hall
    have hall' : l.all okB = true := List.all_eq_true.2 hall
    refine H.exit ?_
    refine H.then_exit ?_
    refine H.then_exit ?_
    refine H.blk_hit ?_
    refine H.then_normal ?_
    refine H.seq ?_
    refine H.region ?_
    refine Ops.quiet (Qt.move rfl) rfl ?_
    refine Ops.eff (Ef.call (fok fab_all rfl Tryd.func36 rfl) rfl (spec_rsize w0 l _ hr (by omega))) rfl ?_
    rintro _ _ ⟨rfl, rfl⟩
    refine Ops.quiet (Qt.leq rfl rfl) rfl ?_
    refine Ops.quiet (Qt.assign rfl) rfl ?_
    refine Ops.nil ?_
    refine H.then_normal ?_
    refine H.ret ?_
    refine (H.ends rfl (.cons (.tmp rfl) .nil) ?_)
    refine ⟨?_, rfl⟩
    unfold goodB
    rw [hall']
    show bol (decide ((sizeL l : Int) ≤ 65536)) = bol (true && decide (sizeL l ≤ 65536))
    rw [Bool.true_and]
    congr 1
    exact decide_eq_decide.2 (by omega)
theorem hasPrefix_dot (s : Bs) : Lib.hasPrefix s [46] = (decide (0 < (s.length : Int)) && (((s.getD 0 0).toNat : Int) == 46)) := by
  cases s with
  | nil => rfl
  | cons b l =>
    have h1 : Lib.hasPrefix (b :: l) [46] = (46 == b) := by simp [Lib.hasPrefix, List.isPrefixOf]
    have h2 : decide (0 < ((b :: l).length : Int)) = true := decide_eq_true (by rw [List.length_cons]; omega)
    rw [h1, h2, Bool.true_and]
    have h3 : (b :: l).getD 0 0 = b := rfl
    rw [h3, Bool.eq_iff_iff]
    simp only [beq_iff_eq]
    constructor
    · intro h; rw [← h]; rfl
    · intro h; exact (u8_eq (b := 46) h).symm
theorem spec_rstuff (w0 : World) (l : List Bs) {A : Option Addr} {n c : Nat} (cs : List SProp) (hr : Reads w0 cs A n c (l.map str)) (hs : sizeL l + l.length ≤ 4611686018427387904) :
    Spec Tryd.prog w0 18 [.slice A n c] cs (fun v cs' => v = str (stuffB l ++ [46, 13, 10]) ∧ cs' = cs) := by
  refine Spec.of_body Tryd.func18 rfl Tryd.ntmps18 rfl ?_
  refine H.fact (fun w hw => (hr w hw).facts) fun ⟨hl, hcap, hmax, hnil⟩ => ?_
  simp only [List.length_map] at hl
  refine H.seq ?_
  refine H.region ?_
  refine Ops.quiet (Qt.assign rfl) rfl ?_
  refine Ops.nil ?_
  refine H.then_normal ?_
  refine H.seq ?_
  refine H.region ?_
  refine Ops.quiet (Qt.assign rfl) rfl ?_
  refine Ops.nil ?_
  refine H.then_normal ?_
  refine H.seq ?_
  refine H.seq ?_
  refine H.region ?_
  refine Ops.quiet (Qt.assign rfl) rfl ?_
  refine Ops.nil ?_
  refine H.then_normal ?_
  refine H.block ?_
  refine H.loop (X := Nat) (fun k => [(0, .slice A n c), (3, str (stuffB (l.take k))), (4, num k)]) (fun k => cs) (fun k => k ≤ n) (fun k => n - k) 0 (Nat.zero_le _) (by repeat (first | exact trivial | refine ⟨rfl, ?_⟩)) (fun w hw => hw) ?_
  intro k hk
  have hln := stuffB_len (l.take k)
  refine H.seq ?_
  refine H.seq ?_
  refine H.region ?_
  refine Ops.quiet (Qt.move rfl) rfl ?_
  refine Ops.quiet (Qt.move rfl) rfl ?_
  refine Ops.quiet (Qt.len_sl (ats := #[]) rfl (tk rfl)) rfl ?_
  refine Ops.quiet (Qt.lss rfl rfl) rfl ?_
  refine Ops.nil ?_
  refine H.then_normal ?_
  refine H.cond rfl (fun h8 => ?_) (fun h8 => ?_)
  · try simp only [decide_eq_true_eq, decide_eq_false_iff_not, beq_iff_eq, beq_eq_false_iff_ne, bne_iff_ne, ne_eq, Bool.not_eq_true', Bool.not_eq_false', bne_eq_false_iff_eq, Bool.not_eq_eq_eq_not, Bool.not_true, Bool.not_false] at h8
    have hk' : k < l.length := by omega
    have hst : stuffB (l.take (k + 1)) = stuffB (l.take k) ++ ((if Lib.hasPrefix (l.getD (k : Int).toNat []) [46] then [46] else []) ++ l.getD (k : Int).toNat [] ++ [13, 10]) := stuffB_take l k hk'
    obtain ⟨hz1, hz2⟩ : sizeL (l.take (k + 1)) = sizeL (l.take k) + ((l.getD (k : Int).toNat []).length + 2) ∧ sizeL (l.take (k + 1)) ≤ sizeL l := sizeL_take l k hk'
    have hp := hasPrefix_dot (l.getD (k : Int).toNat [])
    have hmn : (l.take k).length ≤ l.length := by rw [List.length_take]; omega
    refine H.skip ?_
    refine H.then_normal ?_
    refine H.seq ?_
    refine H.block ?_
    refine H.seq ?_
    refine H.seq ?_
    refine H.region ?_
    refine Ops.quiet (Qt.move rfl) rfl ?_
    refine Ops.quiet (Qt.move rfl) rfl ?_
    refine Ops.quiet (Qt.indexAddr rfl rfl (tk rfl) (tk rfl) rfl (by repeat (first | assumption | exact Reads.of_head | apply Reads.tail)) (by omega) (by omega)) rfl ?_
    refine Ops.quiet (Qt.load_map ([] : List UInt8) rfl (tk rfl) rfl (by repeat (first | assumption | exact Reads.of_head | apply Reads.tail)) (by omega)) rfl ?_
    refine Ops.quiet (Qt.len_str rfl (tk rfl)) rfl ?_
    refine Ops.quiet (Qt.gtr rfl rfl) rfl ?_
    refine Ops.quiet (Qt.move rfl) rfl ?_
    refine Ops.guard rfl rfl rfl rfl (fun g17 => ?_) (fun g17 => ?_)
    · have g17' := g17
      try simp only [decide_eq_true_eq, decide_eq_false_iff_not, beq_iff_eq, beq_eq_false_iff_ne, bne_iff_ne, ne_eq, Bool.not_eq_true', Bool.not_eq_false', bne_eq_false_iff_eq, Bool.not_eq_eq_eq_not, Bool.not_true, Bool.not_false] at g17'
      refine Ops.quiet (Qt.move rfl) rfl ?_
      refine Ops.guard_yes rfl rfl rfl rfl g17 ?_
      refine Ops.quiet (Qt.move rfl) rfl ?_
      refine Ops.guard_yes rfl rfl rfl rfl g17 ?_
      refine Ops.quiet (Qt.indexAddr rfl rfl (tk rfl) (tk rfl) rfl (by repeat (first | assumption | exact Reads.of_head | apply Reads.tail)) (by omega) (by omega)) rfl ?_
      refine Ops.guard_yes rfl rfl rfl rfl g17 ?_
      refine Ops.quiet (Qt.load_map ([] : List UInt8) rfl (tk rfl) rfl (by repeat (first | assumption | exact Reads.of_head | apply Reads.tail)) (by omega)) rfl ?_
      refine Ops.guard_yes rfl rfl rfl rfl g17 ?_
      refine Ops.quiet (Qt.sidx rfl rfl (tk rfl) (by omega) (by omega)) rfl ?_
      refine Ops.guard_yes rfl rfl rfl rfl g17 ?_
      refine Ops.quiet (Qt.eql rfl rfl) rfl ?_
      refine Ops.quiet (Qt.pick_t rfl rfl g17) rfl ?_
      refine Ops.nil ?_
      refine H.then_normal ?_
      refine H.cond rfl (fun h24 => ?_) (fun h24 => ?_)
      · try simp only [decide_eq_true_eq, decide_eq_false_iff_not, beq_iff_eq, beq_eq_false_iff_ne, bne_iff_ne, ne_eq, Bool.not_eq_true', Bool.not_eq_false', bne_eq_false_iff_eq, Bool.not_eq_eq_eq_not, Bool.not_true, Bool.not_false] at h24
        refine H.region ?_
        refine Ops.quiet (Qt.move rfl) rfl ?_
        refine Ops.quiet (Qt.cat rfl rfl (by (try simp only [List.length_append, List.length_cons, List.length_nil]); omega)) rfl ?_
        refine Ops.quiet (Qt.assign rfl) rfl ?_
        refine Ops.nil ?_
        refine H.then_normal ?_
        refine H.region ?_
        refine Ops.quiet (Qt.move rfl) rfl ?_
        refine Ops.quiet (Qt.move rfl) rfl ?_
        refine Ops.quiet (Qt.move rfl) rfl ?_
        refine Ops.quiet (Qt.indexAddr rfl rfl (tk rfl) (tk rfl) rfl (by repeat (first | assumption | exact Reads.of_head | apply Reads.tail)) (by omega) (by omega)) rfl ?_
        refine Ops.quiet (Qt.load_map ([] : List UInt8) rfl (tk rfl) rfl (by repeat (first | assumption | exact Reads.of_head | apply Reads.tail)) (by omega)) rfl ?_
        refine Ops.quiet (Qt.cat rfl rfl (by (try simp only [List.length_append, List.length_cons, List.length_nil]); omega)) rfl ?_
        refine Ops.quiet (Qt.cat rfl rfl (by (try simp only [List.length_append, List.length_cons, List.length_nil]); omega)) rfl ?_
        refine Ops.quiet (Qt.assign rfl) rfl ?_
        refine Ops.nil ?_
        refine H.blk_normal ?_
        refine H.then_normal ?_
        refine H.region ?_
        refine Ops.quiet (Qt.move rfl) rfl ?_
        refine Ops.quiet (Qt.add64 rfl rfl (by omega) (by omega)) rfl ?_
        refine Ops.quiet (Qt.assign rfl) rfl ?_
        refine Ops.nil ?_
        refine H.then_normal ?_
        have hpT : Lib.hasPrefix (l.getD (k : Int).toNat []) [46] = true := by
          rw [hp, g17, Bool.true_and]; exact beq_iff_eq.2 h24
        have e3 : stuffB (l.take (k + 1)) = ((stuffB (l.take k) ++ [46]) ++ l.getD (k : Int).toNat []) ++ [13, 10] := by rw [hst, hpT]; simp
        refine H.round (k + 1) (by omega) (by omega) (by rw [e3]; repeat (first | exact trivial | refine ⟨rfl, ?_⟩)) (fun w hw => hw)
      · try simp only [decide_eq_true_eq, decide_eq_false_iff_not, beq_iff_eq, beq_eq_false_iff_ne, bne_iff_ne, ne_eq, Bool.not_eq_true', Bool.not_eq_false', bne_eq_false_iff_eq, Bool.not_eq_eq_eq_not, Bool.not_true, Bool.not_false] at h24
        refine H.skip ?_
        refine H.then_normal ?_
        refine H.region ?_
        refine Ops.quiet (Qt.move rfl) rfl ?_
        refine Ops.quiet (Qt.move rfl) rfl ?_
        refine Ops.quiet (Qt.move rfl) rfl ?_
        refine Ops.quiet (Qt.indexAddr rfl rfl (tk rfl) (tk rfl) rfl (by repeat (first | assumption | exact Reads.of_head | apply Reads.tail)) (by omega) (by omega)) rfl ?_
        refine Ops.quiet (Qt.load_map ([] : List UInt8) rfl (tk rfl) rfl (by repeat (first | assumption | exact Reads.of_head | apply Reads.tail)) (by omega)) rfl ?_
        refine Ops.quiet (Qt.cat rfl rfl (by (try simp only [List.length_append, List.length_cons, List.length_nil]); omega)) rfl ?_
        refine Ops.quiet (Qt.cat rfl rfl (by (try simp only [List.length_append, List.length_cons, List.length_nil]); omega)) rfl ?_
        refine Ops.quiet (Qt.assign rfl) rfl ?_
        refine Ops.nil ?_
        refine H.blk_normal ?_
        refine H.then_normal ?_
        refine H.region ?_
        refine Ops.quiet (Qt.move rfl) rfl ?_
        refine Ops.quiet (Qt.add64 rfl rfl (by omega) (by omega)) rfl ?_
        refine Ops.quiet (Qt.assign rfl) rfl ?_
        refine Ops.nil ?_
        refine H.then_normal ?_
        have hpF : Lib.hasPrefix (l.getD (k : Int).toNat []) [46] = false := by
          rw [hp, g17, Bool.true_and]; exact beq_eq_false_iff_ne.2 h24
        have e3 : stuffB (l.take (k + 1)) = (stuffB (l.take k) ++ l.getD (k : Int).toNat []) ++ [13, 10] := by rw [hst, hpF]; simp
        refine H.round (k + 1) (by omega) (by omega) (by rw [e3]; repeat (first | exact trivial | refine ⟨rfl, ?_⟩)) (fun w hw => hw)
    · have g17' := g17
      try simp only [decide_eq_true_eq, decide_eq_false_iff_not, beq_iff_eq, beq_eq_false_iff_ne, bne_iff_ne, ne_eq, Bool.not_eq_true', Bool.not_eq_false', bne_eq_false_iff_eq, Bool.not_eq_eq_eq_not, Bool.not_true, Bool.not_false] at g17'
      refine Ops.guard_no rfl rfl rfl rfl g17 ?_
      refine Ops.guard_no rfl rfl rfl rfl g17 ?_
      refine Ops.guard_no rfl rfl rfl rfl g17 ?_
      refine Ops.guard_no rfl rfl rfl rfl g17 ?_
      refine Ops.guard_no rfl rfl rfl rfl g17 ?_
      refine Ops.quiet (Qt.pick_f rfl rfl g17) rfl ?_
      refine Ops.nil ?_
      refine H.then_normal ?_
      refine H.cond_false rfl (by rfl) ?_
      refine H.skip ?_
      refine H.then_normal ?_
      refine H.region ?_
      refine Ops.quiet (Qt.move rfl) rfl ?_
      refine Ops.quiet (Qt.move rfl) rfl ?_
      refine Ops.quiet (Qt.move rfl) rfl ?_
      refine Ops.quiet (Qt.indexAddr rfl rfl (tk rfl) (tk rfl) rfl (by repeat (first | assumption | exact Reads.of_head | apply Reads.tail)) (by omega) (by omega)) rfl ?_
      refine Ops.quiet (Qt.load_map ([] : List UInt8) rfl (tk rfl) rfl (by repeat (first | assumption | exact Reads.of_head | apply Reads.tail)) (by omega)) rfl ?_
      refine Ops.quiet (Qt.cat rfl rfl (by (try simp only [List.length_append, List.length_cons, List.length_nil]); omega)) rfl ?_
      refine Ops.quiet (Qt.cat rfl rfl (by (try simp only [List.length_append, List.length_cons, List.length_nil]); omega)) rfl ?_
      refine Ops.quiet (Qt.assign rfl) rfl ?_
      refine Ops.nil ?_
      refine H.blk_normal ?_
      refine H.then_normal ?_
      refine H.region ?_
      refine Ops.quiet (Qt.move rfl) rfl ?_
      refine Ops.quiet (Qt.add64 rfl rfl (by omega) (by omega)) rfl ?_
      refine Ops.quiet (Qt.assign rfl) rfl ?_
      refine Ops.nil ?_
      refine H.then_normal ?_
      have hpF : Lib.hasPrefix (l.getD (k : Int).toNat []) [46] = false := by
        rw [hp, g17]; rfl
      have e3 : stuffB (l.take (k + 1)) = (stuffB (l.take k) ++ l.getD (k : Int).toNat []) ++ [13, 10] := by rw [hst, hpF]; simp
      refine H.round (k + 1) (by omega) (by omega) (by rw [e3]; repeat (first | exact trivial | refine ⟨rfl, ?_⟩)) (fun w hw => hw)
  · try simp only [decide_eq_true_eq, decide_eq_false_iff_not, beq_iff_eq, beq_eq_false_iff_ne, bne_iff_ne, ne_eq, Bool.not_eq_true', Bool.not_eq_false', bne_eq_false_iff_eq, Bool.not_eq_eq_eq_not, Bool.not_true, Bool.not_false] at h8
    have e1 : l.take k = l := List.take_of_length_le (by omega)
    rw [e1] at hln ⊢
    refine H.exit ?_
    refine H.then_exit ?_
    refine H.then_exit ?_
    refine H.blk_hit ?_
    refine H.then_normal ?_
    refine H.seq ?_
    refine H.region ?_
    refine Ops.quiet (Qt.move rfl) rfl ?_
    refine Ops.quiet (Qt.cat rfl rfl (by (try simp only [List.length_append, List.length_cons, List.length_nil]); omega)) rfl ?_
    refine Ops.quiet (Qt.assign rfl) rfl ?_
    refine Ops.nil ?_
    refine H.then_normal ?_
    refine H.ret ?_
    refine (H.ends rfl (.cons (.tmp rfl) .nil) ?_)
    exact ⟨rfl, rfl⟩
theorem oddB_eq (b : Bs) : oddB b = (b.contains 0 || b.contains 13 || b.contains 10) := by
  unfold oddB
  rw [indexByte_contains, indexByte_contains, indexByte_contains]
theorem spec_rline (w0 : World) (l : Bs) (most : Int) {A : Option Addr} {n c : Nat} (cs : List SProp) (hr : Reads w0 cs A n c (l.map u8v)) (hl0 : l.length ≤ 4611686018427387904) :
    Spec Tryd.prog w0 30 [.slice A n c, num most] cs (fun v cs' => v = (lineOf l most).v ∧ cs' = cs) := by
  refine Spec.of_body Tryd.func30 rfl Tryd.ntmps30 rfl ?_
  refine H.fact (fun w hw => (hr w hw).facts) fun ⟨hl, hcap, hmax, hnil⟩ => ?_
  simp only [List.length_map] at hl
  refine H.seq ?_
  refine H.region ?_
  refine Ops.eff (Ef.alloc (zk rfl)) rfl ?_
  rintro _ _ ⟨b4, rfl, rfl⟩
  refine Ops.nil ?_
  refine H.then_normal ?_
  refine H.seq ?_
  refine H.seq ?_
  refine H.region ?_
  refine Ops.quiet (Qt.move rfl) rfl ?_
  refine Ops.quiet (Qt.len_sl (ats := #[]) rfl (tk rfl)) rfl ?_
  refine Ops.quiet (Qt.add64 rfl rfl (by omega) (by omega)) rfl ?_
  refine Ops.quiet (Qt.move rfl) rfl ?_
  refine Ops.quiet (Qt.gtr rfl rfl) rfl ?_
  refine Ops.nil ?_
  refine H.then_normal ?_
  refine H.cond rfl (fun h10 => ?_) (fun h10 => ?_)
  · try simp only [decide_eq_true_eq, decide_eq_false_iff_not, beq_iff_eq, beq_eq_false_iff_ne, bne_iff_ne, ne_eq, Bool.not_eq_true', Bool.not_eq_false', bne_eq_false_iff_eq, Bool.not_eq_eq_eq_not, Bool.not_true, Bool.not_false] at h10
    refine H.seq ?_
    refine H.region ?_
    refine Ops.quiet (Qt.build (tk rfl) (zk rfl) rfl (by rfl)) rfl ?_
    refine Ops.eff (Ef.store rfl rfl (tk rfl) rfl rfl (by repeat (first | exact ones_nil | refine ones_cons rfl ?_)) (by repeat (first | exact Upd.head | apply Upd.tail)) (by rfl)) rfl ?_
    rintro _ _ rfl
    refine Ops.nil ?_
    refine H.then_normal ?_
    refine H.ret ?_
    refine H.then_ret ?_
    have e1 : lineOf l most = ⟨2, []⟩ := by
      unfold lineOf; rw [if_pos (by omega)]
    refine (H.ends_to (cs' := cs) rfl (.cons (.agg rfl (tk rfl) rfl (by repeat (first | exact List.Mem.head _ | apply List.Mem.tail)) (by rfl) (by rfl)) .nil) (fun w hw => ?_) ?_)
    · exact hw.tail
    · rw [e1]; exact ⟨rfl, rfl⟩
  · try simp only [decide_eq_true_eq, decide_eq_false_iff_not, beq_iff_eq, beq_eq_false_iff_ne, bne_iff_ne, ne_eq, Bool.not_eq_true', Bool.not_eq_false', bne_eq_false_iff_eq, Bool.not_eq_eq_eq_not, Bool.not_true, Bool.not_false] at h10
    refine H.skip ?_
    refine H.then_normal ?_
    refine H.seq ?_
    refine H.seq ?_
    refine H.region ?_
    refine Ops.quiet (Qt.assign rfl) rfl ?_
    refine Ops.nil ?_
    refine H.then_normal ?_
    refine H.block ?_
    refine H.loop (X := Nat) (fun k => [(0, .slice A n c), (4, ptr b4), (5, num k)]) (fun k => blk b4 [num 0, str []] 57 :: cs) (fun k => k ≤ n ∧ (l.take k).contains 0 = false ∧ (l.take k).contains 10 = false ∧ (l.take k).contains 13 = false) (fun k => n - k) 0 ⟨Nat.zero_le _, by simp, by simp, by simp⟩ (by repeat (first | exact trivial | refine ⟨rfl, ?_⟩)) (fun w hw => hw) ?_
    intro k ⟨hk, hc0, hc1, hc2⟩
    refine H.seq ?_
    refine H.seq ?_
    refine H.region ?_
    refine Ops.quiet (Qt.move rfl) rfl ?_
    refine Ops.quiet (Qt.move rfl) rfl ?_
    refine Ops.quiet (Qt.len_sl (ats := #[]) rfl (tk rfl)) rfl ?_
    refine Ops.quiet (Qt.lss rfl rfl) rfl ?_
    refine Ops.nil ?_
    refine H.then_normal ?_
    refine H.cond rfl (fun h15 => ?_) (fun h15 => ?_)
    · try simp only [decide_eq_true_eq, decide_eq_false_iff_not, beq_iff_eq, beq_eq_false_iff_ne, bne_iff_ne, ne_eq, Bool.not_eq_true', Bool.not_eq_false', bne_eq_false_iff_eq, Bool.not_eq_eq_eq_not, Bool.not_true, Bool.not_false] at h15
      have hk' : k < l.length := by omega
      have hs0 := contains_take_succ l 0 k hk'
      have hs1 := contains_take_succ l 10 k hk'
      have hs2 := contains_take_succ l 13 k hk'
      have hmem := getD_mem' hk'
      refine H.skip ?_
      refine H.then_normal ?_
      refine H.seq ?_
      refine H.block ?_
      refine H.seq ?_
      refine H.region ?_
      refine Ops.quiet (Qt.move rfl) rfl ?_
      refine Ops.quiet (Qt.move rfl) rfl ?_
      refine Ops.quiet (Qt.indexAddr rfl rfl (tk rfl) (tk rfl) rfl (by repeat (first | assumption | exact Reads.of_head | apply Reads.tail)) (by omega) (by omega)) rfl ?_
      refine Ops.quiet (Qt.load_map (0 : UInt8) rfl (tk rfl) rfl (by repeat (first | assumption | exact Reads.of_head | apply Reads.tail)) (by omega)) rfl ?_
      refine Ops.quiet (Qt.eql rfl rfl) rfl ?_
      refine Ops.quiet (Qt.move rfl) rfl ?_
      refine Ops.guard rfl rfl rfl rfl (fun g23 => ?_) (fun g23 => ?_)
      · have g23' := g23
        try simp only [decide_eq_true_eq, decide_eq_false_iff_not, beq_iff_eq, beq_eq_false_iff_ne, bne_iff_ne, ne_eq, Bool.not_eq_true', Bool.not_eq_false', bne_eq_false_iff_eq, Bool.not_eq_eq_eq_not, Bool.not_true, Bool.not_false] at g23'
        refine Ops.quiet (Qt.move rfl) rfl ?_
        refine Ops.guard_yes rfl rfl rfl rfl g23 ?_
        refine Ops.quiet (Qt.move rfl) rfl ?_
        refine Ops.guard_yes rfl rfl rfl rfl g23 ?_
        refine Ops.quiet (Qt.indexAddr rfl rfl (tk rfl) (tk rfl) rfl (by repeat (first | assumption | exact Reads.of_head | apply Reads.tail)) (by omega) (by omega)) rfl ?_
        refine Ops.guard_yes rfl rfl rfl rfl g23 ?_
        refine Ops.quiet (Qt.load_map (0 : UInt8) rfl (tk rfl) rfl (by repeat (first | assumption | exact Reads.of_head | apply Reads.tail)) (by omega)) rfl ?_
        refine Ops.guard_yes rfl rfl rfl rfl g23 ?_
        refine Ops.quiet (Qt.eql rfl rfl) rfl ?_
        refine Ops.quiet (Qt.pick_f rfl rfl g23) rfl ?_
        refine Ops.quiet (Qt.move rfl) rfl ?_
        refine Ops.guard rfl rfl rfl rfl (fun g30 => ?_) (fun g30 => ?_)
        · have g30' := g30
          try simp only [decide_eq_true_eq, decide_eq_false_iff_not, beq_iff_eq, beq_eq_false_iff_ne, bne_iff_ne, ne_eq, Bool.not_eq_true', Bool.not_eq_false', bne_eq_false_iff_eq, Bool.not_eq_eq_eq_not, Bool.not_true, Bool.not_false] at g30'
          refine Ops.quiet (Qt.move rfl) rfl ?_
          refine Ops.guard_yes rfl rfl rfl rfl g30 ?_
          refine Ops.quiet (Qt.move rfl) rfl ?_
          refine Ops.guard_yes rfl rfl rfl rfl g30 ?_
          refine Ops.quiet (Qt.indexAddr rfl rfl (tk rfl) (tk rfl) rfl (by repeat (first | assumption | exact Reads.of_head | apply Reads.tail)) (by omega) (by omega)) rfl ?_
          refine Ops.guard_yes rfl rfl rfl rfl g30 ?_
          refine Ops.quiet (Qt.load_map (0 : UInt8) rfl (tk rfl) rfl (by repeat (first | assumption | exact Reads.of_head | apply Reads.tail)) (by omega)) rfl ?_
          refine Ops.guard_yes rfl rfl rfl rfl g30 ?_
          refine Ops.quiet (Qt.eql rfl rfl) rfl ?_
          refine Ops.quiet (Qt.pick_f rfl rfl g30) rfl ?_
          refine Ops.nil ?_
          refine H.then_normal ?_
          refine H.cond rfl (fun h36 => ?_) (fun h36 => ?_)
          · try simp only [decide_eq_true_eq, decide_eq_false_iff_not, beq_iff_eq, beq_eq_false_iff_ne, bne_iff_ne, ne_eq, Bool.not_eq_true', Bool.not_eq_false', bne_eq_false_iff_eq, Bool.not_eq_eq_eq_not, Bool.not_true, Bool.not_false] at h36
            refine H.seq ?_
            refine H.region ?_
            refine Ops.quiet (Qt.build (tk rfl) (zk rfl) rfl (by rfl)) rfl ?_
            refine Ops.eff (Ef.store rfl rfl (tk rfl) rfl rfl (by repeat (first | exact ones_nil | refine ones_cons rfl ?_)) (by repeat (first | exact Upd.head | apply Upd.tail)) (by rfl)) rfl ?_
            rintro _ _ rfl
            refine Ops.nil ?_
            refine H.then_normal ?_
            refine H.ret ?_
            refine H.blk_ret ?_
            refine H.then_ret ?_
            refine H.then_ret ?_
            refine H.blk_ret ?_
            refine H.then_ret ?_
            have hx : l.getD k 0 = 13 := u8_eq (b := 13) h36
            have hx2 : l.contains 13 = true := List.contains_iff_mem.2 (hx ▸ hmem)
            have e1 : lineOf l most = ⟨3, []⟩ := by
              unfold lineOf; rw [if_neg (by omega), oddB_eq, hx2]; simp
            refine (H.ends_to (cs' := cs) rfl (.cons (.agg rfl (tk rfl) rfl (by repeat (first | exact List.Mem.head _ | apply List.Mem.tail)) (by rfl) (by rfl)) .nil) (fun w hw => ?_) ?_)
            · exact hw.tail
            · rw [e1]; exact ⟨rfl, rfl⟩
          · try simp only [decide_eq_true_eq, decide_eq_false_iff_not, beq_iff_eq, beq_eq_false_iff_ne, bne_iff_ne, ne_eq, Bool.not_eq_true', Bool.not_eq_false', bne_eq_false_iff_eq, Bool.not_eq_eq_eq_not, Bool.not_true, Bool.not_false] at h36
            refine H.skip ?_
            refine H.blk_normal ?_
            refine H.then_normal ?_
            refine H.region ?_
            refine Ops.quiet (Qt.move rfl) rfl ?_
            refine Ops.quiet (Qt.add64 rfl rfl (by omega) (by omega)) rfl ?_
            refine Ops.quiet (Qt.assign rfl) rfl ?_
            refine Ops.nil ?_
            refine H.then_normal ?_
            have n0 : (l.getD k 0 == 0) = false := by
              rw [beq_eq_false_iff_ne]; intro h; exact g23' (by show ((l.getD k 0).toNat : Int) = _; rw [h]; rfl)
            have n1 : (l.getD k 0 == 10) = false := by
              rw [beq_eq_false_iff_ne]; intro h; exact g30' (by show ((l.getD k 0).toNat : Int) = _; rw [h]; rfl)
            have n2 : (l.getD k 0 == 13) = false := by
              rw [beq_eq_false_iff_ne]; intro h; exact h36 (by show ((l.getD k 0).toNat : Int) = _; rw [h]; rfl)
            refine H.round (k + 1) ⟨by omega, by rw [hs0, hc0, n0]; rfl, by rw [hs1, hc1, n1]; rfl, by rw [hs2, hc2, n2]; rfl⟩ (by omega) (by repeat (first | exact trivial | refine ⟨rfl, ?_⟩)) (fun w hw => hw)
        · have g30' := g30
          try simp only [decide_eq_true_eq, decide_eq_false_iff_not, beq_iff_eq, beq_eq_false_iff_ne, bne_iff_ne, ne_eq, Bool.not_eq_true', Bool.not_eq_false', bne_eq_false_iff_eq, Bool.not_eq_eq_eq_not, Bool.not_true, Bool.not_false] at g30'
          refine Ops.guard_no rfl rfl rfl rfl g30 ?_
          refine Ops.guard_no rfl rfl rfl rfl g30 ?_
          refine Ops.guard_no rfl rfl rfl rfl g30 ?_
          refine Ops.guard_no rfl rfl rfl rfl g30 ?_
          refine Ops.quiet (Qt.pick_t rfl rfl g30) rfl ?_
          refine Ops.nil ?_
          refine H.then_normal ?_
          refine H.cond_true rfl (by rfl) ?_
          refine H.seq ?_
          refine H.region ?_
          refine Ops.quiet (Qt.build (tk rfl) (zk rfl) rfl (by rfl)) rfl ?_
          refine Ops.eff (Ef.store rfl rfl (tk rfl) rfl rfl (by repeat (first | exact ones_nil | refine ones_cons rfl ?_)) (by repeat (first | exact Upd.head | apply Upd.tail)) (by rfl)) rfl ?_
          rintro _ _ rfl
          refine Ops.nil ?_
          refine H.then_normal ?_
          refine H.ret ?_
          refine H.blk_ret ?_
          refine H.then_ret ?_
          refine H.then_ret ?_
          refine H.blk_ret ?_
          refine H.then_ret ?_
          have hx : l.getD k 0 = 10 := u8_eq (b := 10) g30'
          have hx2 : l.contains 10 = true := List.contains_iff_mem.2 (hx ▸ hmem)
          have e1 : lineOf l most = ⟨3, []⟩ := by
            unfold lineOf; rw [if_neg (by omega), oddB_eq, hx2]; simp
          refine (H.ends_to (cs' := cs) rfl (.cons (.agg rfl (tk rfl) rfl (by repeat (first | exact List.Mem.head _ | apply List.Mem.tail)) (by rfl) (by rfl)) .nil) (fun w hw => ?_) ?_)
          · exact hw.tail
          · rw [e1]; exact ⟨rfl, rfl⟩
      · have g23' := g23
        try simp only [decide_eq_true_eq, decide_eq_false_iff_not, beq_iff_eq, beq_eq_false_iff_ne, bne_iff_ne, ne_eq, Bool.not_eq_true', Bool.not_eq_false', bne_eq_false_iff_eq, Bool.not_eq_eq_eq_not, Bool.not_true, Bool.not_false] at g23'
        refine Ops.guard_no rfl rfl rfl rfl g23 ?_
        refine Ops.guard_no rfl rfl rfl rfl g23 ?_
        refine Ops.guard_no rfl rfl rfl rfl g23 ?_
        refine Ops.guard_no rfl rfl rfl rfl g23 ?_
        refine Ops.quiet (Qt.pick_t rfl rfl g23) rfl ?_
        refine Ops.quiet (Qt.move rfl) rfl ?_
        refine Ops.guard rfl rfl rfl rfl (fun g30 => ?_) (fun g30 => ?_)
        · have g30' := g30
          try simp only [decide_eq_true_eq, decide_eq_false_iff_not, beq_iff_eq, beq_eq_false_iff_ne, bne_iff_ne, ne_eq, Bool.not_eq_true', Bool.not_eq_false', bne_eq_false_iff_eq, Bool.not_eq_eq_eq_not, Bool.not_true, Bool.not_false] at g30'
          exact Bool.noConfusion g30
        · have g30' := g30
          try simp only [decide_eq_true_eq, decide_eq_false_iff_not, beq_iff_eq, beq_eq_false_iff_ne, bne_iff_ne, ne_eq, Bool.not_eq_true', Bool.not_eq_false', bne_eq_false_iff_eq, Bool.not_eq_eq_eq_not, Bool.not_true, Bool.not_false] at g30'
          refine Ops.guard_no rfl rfl rfl rfl g30 ?_
          refine Ops.guard_no rfl rfl rfl rfl g30 ?_
          refine Ops.guard_no rfl rfl rfl rfl g30 ?_
          refine Ops.guard_no rfl rfl rfl rfl g30 ?_
          refine Ops.quiet (Qt.pick_t rfl rfl g30) rfl ?_
          refine Ops.nil ?_
          refine H.then_normal ?_
          refine H.cond_true rfl (by rfl) ?_
          refine H.seq ?_
          refine H.region ?_
          refine Ops.quiet (Qt.build (tk rfl) (zk rfl) rfl (by rfl)) rfl ?_
          refine Ops.eff (Ef.store rfl rfl (tk rfl) rfl rfl (by repeat (first | exact ones_nil | refine ones_cons rfl ?_)) (by repeat (first | exact Upd.head | apply Upd.tail)) (by rfl)) rfl ?_
          rintro _ _ rfl
          refine Ops.nil ?_
          refine H.then_normal ?_
          refine H.ret ?_
          refine H.blk_ret ?_
          refine H.then_ret ?_
          refine H.then_ret ?_
          refine H.blk_ret ?_
          refine H.then_ret ?_
          have hx : l.getD k 0 = 0 := u8_eq (b := 0) g23'
          have hx2 : l.contains 0 = true := List.contains_iff_mem.2 (hx ▸ hmem)
          have e1 : lineOf l most = ⟨3, []⟩ := by
            unfold lineOf; rw [if_neg (by omega), oddB_eq, hx2]; simp
          refine (H.ends_to (cs' := cs) rfl (.cons (.agg rfl (tk rfl) rfl (by repeat (first | exact List.Mem.head _ | apply List.Mem.tail)) (by rfl) (by rfl)) .nil) (fun w hw => ?_) ?_)
          · exact hw.tail
          · rw [e1]; exact ⟨rfl, rfl⟩
    · try simp only [decide_eq_true_eq, decide_eq_false_iff_not, beq_iff_eq, beq_eq_false_iff_ne, bne_iff_ne, ne_eq, Bool.not_eq_true', Bool.not_eq_false', bne_eq_false_iff_eq, Bool.not_eq_eq_eq_not, Bool.not_true, Bool.not_false] at h15
      have e1 : l.take k = l := List.take_of_length_le (by omega)
      rw [e1] at hc0 hc1 hc2
      refine H.exit ?_
      refine H.then_exit ?_
      refine H.then_exit ?_
      refine H.blk_hit ?_
      refine H.then_normal ?_
      refine H.seq ?_
      refine H.region ?_
      refine Ops.quiet (Qt.move rfl) rfl ?_
      refine Ops.quiet (Qt.bytes_str (l := l) rfl (tk rfl) (tk rfl) (tk rfl) (by repeat (first | assumption | exact Reads.of_head | apply Reads.tail))) rfl ?_
      refine Ops.quiet (Qt.build (tk rfl) (zk rfl) rfl (by rfl)) rfl ?_
      refine Ops.eff (Ef.store rfl rfl (tk rfl) rfl rfl (by repeat (first | exact ones_nil | refine ones_cons rfl ?_)) (by repeat (first | exact Upd.head | apply Upd.tail)) (by rfl)) rfl ?_
      rintro _ _ rfl
      refine Ops.nil ?_
      refine H.then_normal ?_
      refine H.ret ?_
      have e1 : lineOf l most = ⟨1, l⟩ := by
        unfold lineOf; rw [if_neg (by omega), oddB_eq, hc0, hc1, hc2]; simp
      refine (H.ends_to (cs' := cs) rfl (.cons (.agg rfl (tk rfl) rfl (by repeat (first | exact List.Mem.head _ | apply List.Mem.tail)) (by rfl) (by rfl)) .nil) (fun w hw => ?_) ?_)
      · exact hw.tail
      · rw [e1]; exact ⟨rfl, rfl⟩
def oneL (l : Ln) : Sp := if (splitL l).ok then splitL l else ⟨0, false, [], false⟩
def codeN (s : Bs) : Nat → Int
  | 0 => 0
  | k + 1 => codeN s k * 10 + dg s k
theorem codeN3 (s : Bs) : codeN s 3 = code3 s := by simp [codeN, code3]
theorem wrap_u8 {n : Int} (h0 : 0 ≤ n) (h1 : n ≤ 255) : IntKind.u8.wrap n = n := by
  show (if (false && decide (n % 256 ≥ 128)) = true then n % 256 - 256 else n % 256) = n
  simp only [Bool.false_and, Bool.false_eq_true, if_false]
  omega
theorem Qt.subw {P : Program} {N : Nat} {w0 : World} {e : Env} {cs : List SProp} {ty : TypeId} {x y : Operand} {t t' : TypeId} {k : IntKind} {i j r : Int} (hx : evE e x = some (.int k i)) (hy : evE e y = some (.int k j)) (h : k.wrap (i - j) = r) : Qt P N w0 e cs (.binOp .sub t x y t') ty (.int k r) := h ▸ Qt.sub hx hy
theorem Qt.convw {P : Program} {N : Nat} {w0 : World} {e : Env} {cs : List SProp} {ty : TypeId} {x : Operand} {s d sz by_ : Nat} {si : TI} {k k' : IntKind} {i r : Int} (hx : evE e x = some (.int k i)) (hS : TOk P s si) (hD : TOk P d ⟨.int k', sz, by_⟩) (h : k'.wrap i = r) : Qt P N w0 e cs (.convert s d x) ty (.int k' r) := h ▸ Qt.conv_int hx hS hD
theorem dg_range {s : Bs} {k : Nat} (h : isDg (s.getD k 0) = true) : 0 ≤ dg s k ∧ dg s k ≤ 9 := by
  have := isDg_range h
  unfold dg; omega
theorem oneL_bad {l : Ln} (h : l.kind ≠ 1 ∨ l.text.length < 3) : oneL l = ⟨0, false, [], false⟩ := by
  have : splitL l = ⟨0, false, [], false⟩ := by unfold splitL; rw [if_pos h]
  unfold oneL; rw [this]; rfl
theorem oneL_dig {s : Bs} (h3 : ¬ s.length < 3) (hd : digs s = false) : oneL ⟨1, s⟩ = ⟨0, false, [], false⟩ := by
  have : splitL ⟨1, s⟩ = ⟨0, false, [], false⟩ := by
    unfold splitL
    rw [if_neg (by simp only []; omega), if_pos hd]
  unfold oneL; rw [this]; rfl
theorem oneL_val {s : Bs} (h3 : ¬ s.length < 3) (hd : digs s = true) : oneL ⟨1, s⟩ =
    if (200 ≤ code3 s ∧ code3 s ≤ 599) ∧ (s.length = 3 ∨ ((s.getD (Int.toNat 3) 0).toNat : Int) = 32 ∨ ((s.getD (Int.toNat 3) 0).toNat : Int) = 45) then
      (if s.length = 3 then ⟨code3 s, false, [], true⟩ else ⟨code3 s, ((s.getD (Int.toNat 3) 0).toNat : Int) == 45, s.drop 4, true⟩)
    else ⟨0, false, [], false⟩ := by
  have e3 : s.getD (Int.toNat 3) 0 = s.getD 3 0 := rfl
  rw [e3]
  have hsp : splitL ⟨1, s⟩ = if s.length = 3 then ⟨code3 s, false, [], codeOk (code3 s)⟩
      else ⟨code3 s, ((s.getD 3 0).toNat : Int) == 45, s.drop 4, codeOk (code3 s) && (((s.getD 3 0).toNat : Int) == 32 || ((s.getD 3 0).toNat : Int) == 45)⟩ := by
    unfold splitL
    rw [if_neg (by simp only []; omega), if_neg (by rw [hd]; simp)]
  unfold oneL
  rw [hsp]
  generalize ((s.getD 3 0).toNat : Int) = x
  have hco : codeOk (code3 s) = decide (200 ≤ code3 s ∧ code3 s ≤ 599) := by simp [codeOk]
  by_cases hl : s.length = 3
  · rw [if_pos hl, if_pos hl]
    by_cases hc : 200 ≤ code3 s ∧ code3 s ≤ 599
    · simp [hco, hc, hl]
    · rw [hco, decide_eq_false hc]
      simp only [Bool.false_and, Bool.false_eq_true, if_false]
      rw [if_neg (fun h => hc h.1)]
  · rw [if_neg hl, if_neg hl]
    by_cases hc : 200 ≤ code3 s ∧ code3 s ≤ 599
    · rw [hco, decide_eq_true hc]
      by_cases hx : x = 32
      · simp [hx, hc]
      · by_cases hx2 : x = 45
        · simp [hx2, hc]
        · simp [hx, hx2, hc, hl]
    · rw [hco, decide_eq_false hc]
      simp only [Bool.false_and, Bool.false_eq_true, if_false]
      rw [if_neg (fun h => hc h.1)]
theorem spec_rone (w0 : World) (l : Ln) (cs : List SProp) (hl : l.text.length ≤ 9223372036854775807) : Spec Tryd.prog w0 31 [l.v] cs (fun v cs' => v = (oneL l).v ∧ cs' = cs) := by
  obtain ⟨k, s⟩ := l
  simp only at hl
  refine Spec.of_body Tryd.func31 rfl Tryd.ntmps31 rfl ?_
  refine H.seq ?_
  refine H.region ?_
  refine Ops.eff (Ef.box rfl rfl) rfl ?_
  rintro _ _ ⟨b1, rfl, rfl⟩
  refine Ops.quiet (Qt.assign rfl) rfl ?_
  refine Ops.quiet (Qt.assign rfl) rfl ?_
  refine Ops.quiet (Qt.assign rfl) rfl ?_
  refine Ops.quiet (Qt.assign rfl) rfl ?_
  refine Ops.nil ?_
  refine H.then_normal ?_
  refine H.seq ?_
  refine H.region ?_
  refine Ops.quiet (Qt.fieldAddr rfl (tk rfl) rfl) rfl ?_
  refine Ops.quiet (Qt.load rfl (tk rfl) rfl (by repeat (first | exact List.Mem.head _ | apply List.Mem.tail)) (by rfl)) rfl ?_
  refine Ops.quiet (Qt.assign rfl) rfl ?_
  refine Ops.nil ?_
  refine H.then_normal ?_
  refine H.seq ?_
  refine H.seq ?_
  refine H.region ?_
  refine Ops.quiet (Qt.fieldAddr rfl (tk rfl) rfl) rfl ?_
  refine Ops.quiet (Qt.load rfl (tk rfl) rfl (by repeat (first | exact List.Mem.head _ | apply List.Mem.tail)) (by rfl)) rfl ?_
  refine Ops.quiet (Qt.neq rfl rfl) rfl ?_
  refine Ops.quiet (Qt.move rfl) rfl ?_
  refine Ops.guard rfl rfl rfl rfl (fun g14 => ?_) (fun g14 => ?_)
  · have g14' := g14
    try simp only [decide_eq_true_eq, decide_eq_false_iff_not, beq_iff_eq, beq_eq_false_iff_ne, bne_iff_ne, ne_eq, Bool.not_eq_true', Bool.not_eq_false', bne_eq_false_iff_eq, Bool.not_eq_eq_eq_not, Bool.not_true, Bool.not_false] at g14'
    refine Ops.quiet (Qt.move rfl) rfl ?_
    refine Ops.guard_yes rfl rfl rfl rfl g14 ?_
    refine Ops.quiet (Qt.len_str rfl (tk rfl)) rfl ?_
    refine Ops.guard_yes rfl rfl rfl rfl g14 ?_
    refine Ops.quiet (Qt.lss rfl rfl) rfl ?_
    refine Ops.quiet (Qt.pick_f rfl rfl g14) rfl ?_
    refine Ops.nil ?_
    refine H.then_normal ?_
    refine H.cond rfl (fun h18 => ?_) (fun h18 => ?_)
    · try simp only [decide_eq_true_eq, decide_eq_false_iff_not, beq_iff_eq, beq_eq_false_iff_ne, bne_iff_ne, ne_eq, Bool.not_eq_true', Bool.not_eq_false', bne_eq_false_iff_eq, Bool.not_eq_eq_eq_not, Bool.not_true, Bool.not_false] at h18
      refine H.seq ?_
      refine H.region ?_
      refine Ops.quiet (Qt.assign rfl) rfl ?_
      refine Ops.quiet (Qt.assign rfl) rfl ?_
      refine Ops.quiet (Qt.assign rfl) rfl ?_
      refine Ops.quiet (Qt.assign rfl) rfl ?_
      refine Ops.nil ?_
      refine H.then_normal ?_
      refine H.ret ?_
      refine H.then_ret ?_
      refine (H.ends_to (cs' := cs) rfl (.cons (.tmp rfl) (.cons (.tmp rfl) (.cons (.tmp rfl) (.cons (.tmp rfl) .nil)))) (fun w hw => ?_) ?_)
      · exact hw.tail
      · refine ⟨?_, rfl⟩
        rw [oneL_bad (.inr (by simp only []; omega))]; rfl
    · try simp only [decide_eq_true_eq, decide_eq_false_iff_not, beq_iff_eq, beq_eq_false_iff_ne, bne_iff_ne, ne_eq, Bool.not_eq_true', Bool.not_eq_false', bne_eq_false_iff_eq, Bool.not_eq_eq_eq_not, Bool.not_true, Bool.not_false] at h18
      refine H.skip ?_
      refine H.then_normal ?_
      refine H.seq ?_
      refine H.region ?_
      refine Ops.quiet (Qt.assign rfl) rfl ?_
      refine Ops.nil ?_
      refine H.then_normal ?_
      refine H.seq ?_
      refine H.seq ?_
      refine H.region ?_
      refine Ops.quiet (Qt.assign rfl) rfl ?_
      refine Ops.nil ?_
      refine H.then_normal ?_
      refine H.block ?_
      refine H.loop (X := Nat) (fun j => [(1, ptr b1), (6, str s), (7, num (codeN s j)), (8, num j)]) (fun j => blk b1 [num k, str s] 57 :: cs) (fun j => j ≤ 3 ∧ (∀ i, i < j → isDg (s.getD i 0) = true) ∧ 0 ≤ codeN s j ∧ codeN s j ≤ 999999) (fun j => 3 - j) 0 ⟨Nat.zero_le _, fun i h => absurd h (Nat.not_lt_zero _), by simp [codeN], by simp [codeN]⟩ (by repeat (first | exact trivial | refine ⟨rfl, ?_⟩)) (fun w hw => hw) ?_
      intro j ⟨hj, hdg, hn0, hn1⟩
      refine H.seq ?_
      refine H.seq ?_
      refine H.region ?_
      refine Ops.quiet (Qt.move rfl) rfl ?_
      refine Ops.quiet (Qt.lss rfl rfl) rfl ?_
      refine Ops.nil ?_
      refine H.then_normal ?_
      refine H.cond rfl (fun h20 => ?_) (fun h20 => ?_)
      · try simp only [decide_eq_true_eq, decide_eq_false_iff_not, beq_iff_eq, beq_eq_false_iff_ne, bne_iff_ne, ne_eq, Bool.not_eq_true', Bool.not_eq_false', bne_eq_false_iff_eq, Bool.not_eq_eq_eq_not, Bool.not_true, Bool.not_false] at h20
        have hj3 : j < 3 := by omega
        have hjs : j < s.length := by omega
        refine H.skip ?_
        refine H.then_normal ?_
        refine H.seq ?_
        refine H.block ?_
        refine H.seq ?_
        refine H.seq ?_
        refine H.region ?_
        refine Ops.quiet (Qt.move rfl) rfl ?_
        refine Ops.quiet (Qt.move rfl) rfl ?_
        refine Ops.quiet (Qt.sidx rfl rfl (tk rfl) (by omega) (by omega)) rfl ?_
        refine Ops.quiet (Qt.lss rfl rfl) rfl ?_
        refine Ops.quiet (Qt.move rfl) rfl ?_
        refine Ops.guard rfl rfl rfl rfl (fun g27 => ?_) (fun g27 => ?_)
        · have g27' := g27
          try simp only [decide_eq_true_eq, decide_eq_false_iff_not, beq_iff_eq, beq_eq_false_iff_ne, bne_iff_ne, ne_eq, Bool.not_eq_true', Bool.not_eq_false', bne_eq_false_iff_eq, Bool.not_eq_eq_eq_not, Bool.not_true, Bool.not_false] at g27'
          refine Ops.quiet (Qt.move rfl) rfl ?_
          refine Ops.guard_yes rfl rfl rfl rfl g27 ?_
          refine Ops.quiet (Qt.move rfl) rfl ?_
          refine Ops.guard_yes rfl rfl rfl rfl g27 ?_
          refine Ops.quiet (Qt.sidx rfl rfl (tk rfl) (by omega) (by omega)) rfl ?_
          refine Ops.guard_yes rfl rfl rfl rfl g27 ?_
          refine Ops.quiet (Qt.gtr rfl rfl) rfl ?_
          refine Ops.quiet (Qt.pick_f rfl rfl g27) rfl ?_
          refine Ops.nil ?_
          refine H.then_normal ?_
          refine H.cond rfl (fun h32 => ?_) (fun h32 => ?_)
          · try simp only [decide_eq_true_eq, decide_eq_false_iff_not, beq_iff_eq, beq_eq_false_iff_ne, bne_iff_ne, ne_eq, Bool.not_eq_true', Bool.not_eq_false', bne_eq_false_iff_eq, Bool.not_eq_eq_eq_not, Bool.not_true, Bool.not_false] at h32
            refine H.seq ?_
            refine H.region ?_
            refine Ops.quiet (Qt.assign rfl) rfl ?_
            refine Ops.quiet (Qt.assign rfl) rfl ?_
            refine Ops.quiet (Qt.assign rfl) rfl ?_
            refine Ops.quiet (Qt.assign rfl) rfl ?_
            refine Ops.nil ?_
            refine H.then_normal ?_
            refine H.ret ?_
            refine H.then_ret ?_
            refine H.blk_ret ?_
            refine H.then_ret ?_
            refine H.then_ret ?_
            refine H.blk_ret ?_
            refine H.then_ret ?_
            refine (H.ends_to (cs' := cs) rfl (.cons (.tmp rfl) (.cons (.tmp rfl) (.cons (.tmp rfl) (.cons (.tmp rfl) .nil)))) (fun w hw => ?_) ?_)
            · exact hw.tail
            · refine ⟨?_, rfl⟩
              have hd : digs s = false := digs_not hj3 (by have := (show 57 < ((s.getD j 0).toNat : Int) from h32); simp only [isDg, decide_eq_true this, Bool.or_true, Bool.not_true])
              rw [g14', oneL_dig (by omega) hd]; rfl
          · try simp only [decide_eq_true_eq, decide_eq_false_iff_not, beq_iff_eq, beq_eq_false_iff_ne, bne_iff_ne, ne_eq, Bool.not_eq_true', Bool.not_eq_false', bne_eq_false_iff_eq, Bool.not_eq_eq_eq_not, Bool.not_true, Bool.not_false] at h32
            have a1 := (show ¬ ((s.getD j 0).toNat : Int) < 48 from g27')
            have a2 := (show ¬ 57 < ((s.getD j 0).toNat : Int) from h32)
            have hd : isDg (s.getD j 0) = true := by simp only [isDg, decide_eq_false a1, decide_eq_false a2, Bool.or_false, Bool.not_false]
            have hdr := dg_range hd
            refine H.skip ?_
            refine H.then_normal ?_
            refine H.region ?_
            refine Ops.quiet (Qt.move rfl) rfl ?_
            refine Ops.quiet (Qt.mul64 rfl rfl (by omega) (by omega)) rfl ?_
            refine Ops.quiet (Qt.move rfl) rfl ?_
            refine Ops.quiet (Qt.move rfl) rfl ?_
            refine Ops.quiet (Qt.sidx rfl rfl (tk rfl) (by omega) (by omega)) rfl ?_
            refine Ops.quiet (Qt.subw (r := dg s j) rfl rfl (wrap_u8 (show 0 ≤ dg s j from hdr.1) (show dg s j ≤ 255 by omega))) rfl ?_
            refine Ops.quiet (Qt.convw (r := dg s j) rfl (tk rfl) (tk rfl) (wrap_i64 (by omega) (by omega))) rfl ?_
            refine Ops.quiet (Qt.add64 rfl rfl (by omega) (by omega)) rfl ?_
            refine Ops.quiet (Qt.assign rfl) rfl ?_
            refine Ops.nil ?_
            refine H.blk_normal ?_
            refine H.then_normal ?_
            refine H.region ?_
            refine Ops.quiet (Qt.move rfl) rfl ?_
            refine Ops.quiet (Qt.add64 rfl rfl (by omega) (by omega)) rfl ?_
            refine Ops.quiet (Qt.assign rfl) rfl ?_
            refine Ops.nil ?_
            refine H.then_normal ?_
            have e4 : codeN s (j + 1) = codeN s j * 10 + dg s j := rfl
            have hb : codeN s (j + 1) ≤ 999999 := by
              match j, hj3 with
              | 0, _ => rw [e4]; simp only [codeN] at *; omega
              | 1, _ =>
                have := dg_range (hdg 0 (by omega))
                rw [e4]; simp only [codeN] at *; omega
              | 2, _ =>
                have := dg_range (hdg 0 (by omega))
                have := dg_range (hdg 1 (by omega))
                rw [e4]; simp only [codeN] at *; omega
            refine H.round (j + 1) ⟨by omega, fun i hi => ?_, by rw [e4]; omega, hb⟩ (by omega) (by repeat (first | exact trivial | refine ⟨rfl, ?_⟩)) (fun w hw => hw)
            rcases Nat.lt_succ_iff_lt_or_eq.1 hi with hi | rfl
            · exact hdg i hi
            · exact hd
        · have g27' := g27
          try simp only [decide_eq_true_eq, decide_eq_false_iff_not, beq_iff_eq, beq_eq_false_iff_ne, bne_iff_ne, ne_eq, Bool.not_eq_true', Bool.not_eq_false', bne_eq_false_iff_eq, Bool.not_eq_eq_eq_not, Bool.not_true, Bool.not_false] at g27'
          refine Ops.guard_no rfl rfl rfl rfl g27 ?_
          refine Ops.guard_no rfl rfl rfl rfl g27 ?_
          refine Ops.guard_no rfl rfl rfl rfl g27 ?_
          refine Ops.quiet (Qt.pick_t rfl rfl g27) rfl ?_
          refine Ops.nil ?_
          refine H.then_normal ?_
          refine H.cond_true rfl (by rfl) ?_
          refine H.seq ?_
          refine H.region ?_
          refine Ops.quiet (Qt.assign rfl) rfl ?_
          refine Ops.quiet (Qt.assign rfl) rfl ?_
          refine Ops.quiet (Qt.assign rfl) rfl ?_
          refine Ops.quiet (Qt.assign rfl) rfl ?_
          refine Ops.nil ?_
          refine H.then_normal ?_
          refine H.ret ?_
          refine H.then_ret ?_
          refine H.blk_ret ?_
          refine H.then_ret ?_
          refine H.then_ret ?_
          refine H.blk_ret ?_
          refine H.then_ret ?_
          refine (H.ends_to (cs' := cs) rfl (.cons (.tmp rfl) (.cons (.tmp rfl) (.cons (.tmp rfl) (.cons (.tmp rfl) .nil)))) (fun w hw => ?_) ?_)
          · exact hw.tail
          · refine ⟨?_, rfl⟩
            have hd : digs s = false := digs_not hj3 (by have := (show ((s.getD j 0).toNat : Int) < 48 from g27'); simp only [isDg, decide_eq_true this, Bool.true_or, Bool.not_true])
            rw [g14', oneL_dig (by omega) hd]; rfl
      · try simp only [decide_eq_true_eq, decide_eq_false_iff_not, beq_iff_eq, beq_eq_false_iff_ne, bne_iff_ne, ne_eq, Bool.not_eq_true', Bool.not_eq_false', bne_eq_false_iff_eq, Bool.not_eq_eq_eq_not, Bool.not_true, Bool.not_false] at h20
        obtain rfl : j = 3 := by omega
        have hT2 := digs_of hdg
        have hT3 := code3_range hdg
        have hT4 : ¬ s.length < 3 := by omega
        have hT6 := codeN3 s
        rw [hT6]
        rw [hT6] at hn0 hn1
        refine H.exit ?_
        refine H.then_exit ?_
        refine H.then_exit ?_
        refine H.blk_hit ?_
        refine H.then_normal ?_
        refine H.seq ?_
        refine H.seq ?_
        refine H.region ?_
        refine Ops.quiet (Qt.move rfl) rfl ?_
        refine Ops.quiet (Qt.lss rfl rfl) rfl ?_
        refine Ops.quiet (Qt.move rfl) rfl ?_
        refine Ops.guard rfl rfl rfl rfl (fun g43 => ?_) (fun g43 => ?_)
        · have g43' := g43
          try simp only [decide_eq_true_eq, decide_eq_false_iff_not, beq_iff_eq, beq_eq_false_iff_ne, bne_iff_ne, ne_eq, Bool.not_eq_true', Bool.not_eq_false', bne_eq_false_iff_eq, Bool.not_eq_eq_eq_not, Bool.not_true, Bool.not_false] at g43'
          refine Ops.quiet (Qt.move rfl) rfl ?_
          refine Ops.guard_yes rfl rfl rfl rfl g43 ?_
          refine Ops.quiet (Qt.gtr rfl rfl) rfl ?_
          refine Ops.quiet (Qt.pick_f rfl rfl g43) rfl ?_
          refine Ops.quiet (Qt.move rfl) rfl ?_
          refine Ops.guard rfl rfl rfl rfl (fun g47 => ?_) (fun g47 => ?_)
          · have g47' := g47
            try simp only [decide_eq_true_eq, decide_eq_false_iff_not, beq_iff_eq, beq_eq_false_iff_ne, bne_iff_ne, ne_eq, Bool.not_eq_true', Bool.not_eq_false', bne_eq_false_iff_eq, Bool.not_eq_eq_eq_not, Bool.not_true, Bool.not_false] at g47'
            refine Ops.quiet (Qt.move rfl) rfl ?_
            refine Ops.guard_yes rfl rfl rfl rfl g47 ?_
            refine Ops.quiet (Qt.len_str rfl (tk rfl)) rfl ?_
            refine Ops.guard_yes rfl rfl rfl rfl g47 ?_
            refine Ops.quiet (Qt.gtr rfl rfl) rfl ?_
            refine Ops.guard_yes rfl rfl rfl rfl g47 ?_
            refine Ops.quiet (Qt.move rfl) rfl ?_
            refine Ops.guard rfl rfl rfl rfl (fun g51 => ?_) (fun g51 => ?_)
            · have g51' := g51
              try simp only [decide_eq_true_eq, decide_eq_false_iff_not, beq_iff_eq, beq_eq_false_iff_ne, bne_iff_ne, ne_eq, Bool.not_eq_true', Bool.not_eq_false', bne_eq_false_iff_eq, Bool.not_eq_eq_eq_not, Bool.not_true, Bool.not_false] at g51'
              refine Ops.quiet (Qt.move rfl) rfl ?_
              refine Ops.guard_yes rfl rfl rfl rfl g51 ?_
              refine Ops.quiet (Qt.sidx rfl rfl (tk rfl) (by omega) (by omega)) rfl ?_
              refine Ops.guard_yes rfl rfl rfl rfl g51 ?_
              refine Ops.quiet (Qt.neq rfl rfl) rfl ?_
              refine Ops.guard_yes rfl rfl rfl rfl g47 ?_
              refine Ops.quiet (Qt.pick_t rfl rfl g51) rfl ?_
              refine Ops.guard_yes rfl rfl rfl rfl g47 ?_
              refine Ops.quiet (Qt.move rfl) rfl ?_
              refine Ops.guard rfl rfl rfl rfl (fun g56 => ?_) (fun g56 => ?_)
              · have g56' := g56
                try simp only [decide_eq_true_eq, decide_eq_false_iff_not, beq_iff_eq, beq_eq_false_iff_ne, bne_iff_ne, ne_eq, Bool.not_eq_true', Bool.not_eq_false', bne_eq_false_iff_eq, Bool.not_eq_eq_eq_not, Bool.not_true, Bool.not_false] at g56'
                refine Ops.quiet (Qt.move rfl) rfl ?_
                refine Ops.guard_yes rfl rfl rfl rfl g56 ?_
                refine Ops.quiet (Qt.sidx rfl rfl (tk rfl) (by omega) (by omega)) rfl ?_
                refine Ops.guard_yes rfl rfl rfl rfl g56 ?_
                refine Ops.quiet (Qt.neq rfl rfl) rfl ?_
                refine Ops.guard_yes rfl rfl rfl rfl g47 ?_
                refine Ops.quiet (Qt.pick_t rfl rfl g56) rfl ?_
                refine Ops.quiet (Qt.pick_f rfl rfl g47) rfl ?_
                refine Ops.nil ?_
                refine H.then_normal ?_
                refine H.cond rfl (fun h61 => ?_) (fun h61 => ?_)
                · try simp only [decide_eq_true_eq, decide_eq_false_iff_not, beq_iff_eq, beq_eq_false_iff_ne, bne_iff_ne, ne_eq, Bool.not_eq_true', Bool.not_eq_false', bne_eq_false_iff_eq, Bool.not_eq_eq_eq_not, Bool.not_true, Bool.not_false] at h61
                  refine H.seq ?_
                  refine H.region ?_
                  refine Ops.quiet (Qt.assign rfl) rfl ?_
                  refine Ops.quiet (Qt.assign rfl) rfl ?_
                  refine Ops.quiet (Qt.assign rfl) rfl ?_
                  refine Ops.quiet (Qt.assign rfl) rfl ?_
                  refine Ops.nil ?_
                  refine H.then_normal ?_
                  refine H.ret ?_
                  refine H.then_ret ?_
                  refine (H.ends_to (cs' := cs) rfl (.cons (.tmp rfl) (.cons (.tmp rfl) (.cons (.tmp rfl) (.cons (.tmp rfl) .nil)))) (fun w hw => ?_) ?_)
                  · exact hw.tail
                  · refine ⟨?_, rfl⟩
                    rw [g14', oneL_val (by omega) hT2, if_neg (by omega)]; rfl
                · try simp only [decide_eq_true_eq, decide_eq_false_iff_not, beq_iff_eq, beq_eq_false_iff_ne, bne_iff_ne, ne_eq, Bool.not_eq_true', Bool.not_eq_false', bne_eq_false_iff_eq, Bool.not_eq_eq_eq_not, Bool.not_true, Bool.not_false] at h61
                  refine H.skip ?_
                  refine H.then_normal ?_
                  refine H.seq ?_
                  refine H.seq ?_
                  refine H.region ?_
                  refine Ops.quiet (Qt.move rfl) rfl ?_
                  refine Ops.quiet (Qt.len_str rfl (tk rfl)) rfl ?_
                  refine Ops.quiet (Qt.eql rfl rfl) rfl ?_
                  refine Ops.nil ?_
                  refine H.then_normal ?_
                  refine H.cond rfl (fun h64 => ?_) (fun h64 => ?_)
                  · try simp only [decide_eq_true_eq, decide_eq_false_iff_not, beq_iff_eq, beq_eq_false_iff_ne, bne_iff_ne, ne_eq, Bool.not_eq_true', Bool.not_eq_false', bne_eq_false_iff_eq, Bool.not_eq_eq_eq_not, Bool.not_true, Bool.not_false] at h64
                    refine H.seq ?_
                    refine H.region ?_
                    refine Ops.quiet (Qt.move rfl) rfl ?_
                    refine Ops.quiet (Qt.assign rfl) rfl ?_
                    refine Ops.quiet (Qt.assign rfl) rfl ?_
                    refine Ops.quiet (Qt.assign rfl) rfl ?_
                    refine Ops.quiet (Qt.assign rfl) rfl ?_
                    refine Ops.nil ?_
                    refine H.then_normal ?_
                    refine H.ret ?_
                    refine H.then_ret ?_
                    refine (H.ends_to (cs' := cs) rfl (.cons (.tmp rfl) (.cons (.tmp rfl) (.cons (.tmp rfl) (.cons (.tmp rfl) .nil)))) (fun w hw => ?_) ?_)
                    · exact hw.tail
                    · refine ⟨?_, rfl⟩
                      rw [g14', oneL_val (by omega) hT2, if_pos (by omega), if_pos (by omega)]; rfl
                  · try simp only [decide_eq_true_eq, decide_eq_false_iff_not, beq_iff_eq, beq_eq_false_iff_ne, bne_iff_ne, ne_eq, Bool.not_eq_true', Bool.not_eq_false', bne_eq_false_iff_eq, Bool.not_eq_eq_eq_not, Bool.not_true, Bool.not_false] at h64
                    refine H.skip ?_
                    refine H.then_normal ?_
                    refine H.seq ?_
                    refine H.drawn_all 8 mixed (by kernel_rfl) ?_
                    refine Hd.quiet 0 (by kernel_rfl) rfl rfl (by kernel_rfl) rfl (Qt.move rfl) ?_
                    refine Hd.quiet 1 (by kernel_rfl) rfl rfl (by kernel_rfl) rfl (Qt.move rfl) ?_
                    refine Hd.quiet 2 (by kernel_rfl) rfl rfl (by kernel_rfl) rfl (Qt.sidx rfl rfl (tk rfl) (by omega) (by omega)) ?_
                    refine Hd.quiet 3 (by kernel_rfl) rfl rfl (by kernel_rfl) rfl (Qt.eql rfl rfl) ?_
                    refine Hd.quiet 4 (by kernel_rfl) rfl rfl (by kernel_rfl) rfl (Qt.move rfl) ?_
                    refine Hd.quiet 5 (by kernel_rfl) rfl rfl (by kernel_rfl) rfl (Qt.sslice rfl (tk rfl) rfl rfl (by omega) (by omega) (by omega)) ?_
                    refine Hd.quiet 6 (by kernel_rfl) rfl rfl (by kernel_rfl) rfl (Qt.assign rfl) ?_
                    refine Hd.quiet 7 (by kernel_rfl) rfl rfl (by kernel_rfl) rfl (Qt.assign rfl) ?_
                    refine Hd.tail (by intro w hw; first | exact hw | exact Own.sub (by repeat (first | exact List.Sublist.refl _ | exact List.nil_sublist _ | apply List.Sublist.cons_cons | apply List.Sublist.cons)) hw) (by kernel_rfl) rfl ?_
                    refine Ops.quiet (Qt.assign rfl) rfl ?_
                    refine Ops.quiet (Qt.assign rfl) rfl ?_
                    refine Ops.nil ?_
                    refine H.then_normal ?_
                    refine H.ret ?_
                    refine (H.ends_to (cs' := cs) rfl (.cons (.tmp rfl) (.cons (.tmp rfl) (.cons (.tmp rfl) (.cons (.tmp rfl) .nil)))) (fun w hw => ?_) ?_)
                    · exact hw.tail
                    · refine ⟨?_, rfl⟩
                      rw [g14', oneL_val (by omega) hT2, if_pos (by omega), if_neg (by omega)]
                      have e2 : (s.drop 4).take (s.length - 4) = s.drop 4 := List.take_of_length_le (by simp)
                      show Value.tuple #[num (code3 s), bol (((s.getD (Int.toNat 3) 0).toNat : Int) == 45), str ((s.drop 4).take (s.length - 4)), bol true] = _
                      rw [e2]
              · have g56' := g56
                try simp only [decide_eq_true_eq, decide_eq_false_iff_not, beq_iff_eq, beq_eq_false_iff_ne, bne_iff_ne, ne_eq, Bool.not_eq_true', Bool.not_eq_false', bne_eq_false_iff_eq, Bool.not_eq_eq_eq_not, Bool.not_true, Bool.not_false] at g56'
                refine Ops.guard_no rfl rfl rfl rfl g56 ?_
                refine Ops.guard_no rfl rfl rfl rfl g56 ?_
                refine Ops.guard_yes rfl rfl rfl rfl g47 ?_
                refine Ops.quiet (Qt.pick_f rfl rfl g56) rfl ?_
                refine Ops.quiet (Qt.pick_f rfl rfl g47) rfl ?_
                refine Ops.nil ?_
                refine H.then_normal ?_
                refine H.cond_false rfl (by rfl) ?_
                refine H.skip ?_
                refine H.then_normal ?_
                refine H.seq ?_
                refine H.seq ?_
                refine H.region ?_
                refine Ops.quiet (Qt.move rfl) rfl ?_
                refine Ops.quiet (Qt.len_str rfl (tk rfl)) rfl ?_
                refine Ops.quiet (Qt.eql rfl rfl) rfl ?_
                refine Ops.nil ?_
                refine H.then_normal ?_
                refine H.cond rfl (fun h64 => ?_) (fun h64 => ?_)
                · try simp only [decide_eq_true_eq, decide_eq_false_iff_not, beq_iff_eq, beq_eq_false_iff_ne, bne_iff_ne, ne_eq, Bool.not_eq_true', Bool.not_eq_false', bne_eq_false_iff_eq, Bool.not_eq_eq_eq_not, Bool.not_true, Bool.not_false] at h64
                  refine H.seq ?_
                  refine H.region ?_
                  refine Ops.quiet (Qt.move rfl) rfl ?_
                  refine Ops.quiet (Qt.assign rfl) rfl ?_
                  refine Ops.quiet (Qt.assign rfl) rfl ?_
                  refine Ops.quiet (Qt.assign rfl) rfl ?_
                  refine Ops.quiet (Qt.assign rfl) rfl ?_
                  refine Ops.nil ?_
                  refine H.then_normal ?_
                  refine H.ret ?_
                  refine H.then_ret ?_
                  refine (H.ends_to (cs' := cs) rfl (.cons (.tmp rfl) (.cons (.tmp rfl) (.cons (.tmp rfl) (.cons (.tmp rfl) .nil)))) (fun w hw => ?_) ?_)
                  · exact hw.tail
                  · refine ⟨?_, rfl⟩
                    rw [g14', oneL_val (by omega) hT2, if_pos (by omega), if_pos (by omega)]; rfl
                · try simp only [decide_eq_true_eq, decide_eq_false_iff_not, beq_iff_eq, beq_eq_false_iff_ne, bne_iff_ne, ne_eq, Bool.not_eq_true', Bool.not_eq_false', bne_eq_false_iff_eq, Bool.not_eq_eq_eq_not, Bool.not_true, Bool.not_false] at h64
                  refine H.skip ?_
                  refine H.then_normal ?_
                  refine H.seq ?_
                  refine H.drawn_all 8 mixed (by kernel_rfl) ?_
                  refine Hd.quiet 0 (by kernel_rfl) rfl rfl (by kernel_rfl) rfl (Qt.move rfl) ?_
                  refine Hd.quiet 1 (by kernel_rfl) rfl rfl (by kernel_rfl) rfl (Qt.move rfl) ?_
                  refine Hd.quiet 2 (by kernel_rfl) rfl rfl (by kernel_rfl) rfl (Qt.sidx rfl rfl (tk rfl) (by omega) (by omega)) ?_
                  refine Hd.quiet 3 (by kernel_rfl) rfl rfl (by kernel_rfl) rfl (Qt.eql rfl rfl) ?_
                  refine Hd.quiet 4 (by kernel_rfl) rfl rfl (by kernel_rfl) rfl (Qt.move rfl) ?_
                  refine Hd.quiet 5 (by kernel_rfl) rfl rfl (by kernel_rfl) rfl (Qt.sslice rfl (tk rfl) rfl rfl (by omega) (by omega) (by omega)) ?_
                  refine Hd.quiet 6 (by kernel_rfl) rfl rfl (by kernel_rfl) rfl (Qt.assign rfl) ?_
                  refine Hd.quiet 7 (by kernel_rfl) rfl rfl (by kernel_rfl) rfl (Qt.assign rfl) ?_
                  refine Hd.tail (by intro w hw; first | exact hw | exact Own.sub (by repeat (first | exact List.Sublist.refl _ | exact List.nil_sublist _ | apply List.Sublist.cons_cons | apply List.Sublist.cons)) hw) (by kernel_rfl) rfl ?_
                  refine Ops.quiet (Qt.assign rfl) rfl ?_
                  refine Ops.quiet (Qt.assign rfl) rfl ?_
                  refine Ops.nil ?_
                  refine H.then_normal ?_
                  refine H.ret ?_
                  refine (H.ends_to (cs' := cs) rfl (.cons (.tmp rfl) (.cons (.tmp rfl) (.cons (.tmp rfl) (.cons (.tmp rfl) .nil)))) (fun w hw => ?_) ?_)
                  · exact hw.tail
                  · refine ⟨?_, rfl⟩
                    rw [g14', oneL_val (by omega) hT2, if_pos (by omega), if_neg (by omega)]
                    have e2 : (s.drop 4).take (s.length - 4) = s.drop 4 := List.take_of_length_le (by simp)
                    show Value.tuple #[num (code3 s), bol (((s.getD (Int.toNat 3) 0).toNat : Int) == 45), str ((s.drop 4).take (s.length - 4)), bol true] = _
                    rw [e2]
            · have g51' := g51
              try simp only [decide_eq_true_eq, decide_eq_false_iff_not, beq_iff_eq, beq_eq_false_iff_ne, bne_iff_ne, ne_eq, Bool.not_eq_true', Bool.not_eq_false', bne_eq_false_iff_eq, Bool.not_eq_eq_eq_not, Bool.not_true, Bool.not_false] at g51'
              refine Ops.guard_no rfl rfl rfl rfl g51 ?_
              refine Ops.guard_no rfl rfl rfl rfl g51 ?_
              refine Ops.guard_yes rfl rfl rfl rfl g47 ?_
              refine Ops.quiet (Qt.pick_f rfl rfl g51) rfl ?_
              refine Ops.guard_yes rfl rfl rfl rfl g47 ?_
              refine Ops.quiet (Qt.move rfl) rfl ?_
              refine Ops.guard rfl rfl rfl rfl (fun g56 => ?_) (fun g56 => ?_)
              · have g56' := g56
                try simp only [decide_eq_true_eq, decide_eq_false_iff_not, beq_iff_eq, beq_eq_false_iff_ne, bne_iff_ne, ne_eq, Bool.not_eq_true', Bool.not_eq_false', bne_eq_false_iff_eq, Bool.not_eq_eq_eq_not, Bool.not_true, Bool.not_false] at g56'
                exact Bool.noConfusion g56
              · have g56' := g56
                try simp only [decide_eq_true_eq, decide_eq_false_iff_not, beq_iff_eq, beq_eq_false_iff_ne, bne_iff_ne, ne_eq, Bool.not_eq_true', Bool.not_eq_false', bne_eq_false_iff_eq, Bool.not_eq_eq_eq_not, Bool.not_true, Bool.not_false] at g56'
                refine Ops.guard_no rfl rfl rfl rfl g56 ?_
                refine Ops.guard_no rfl rfl rfl rfl g56 ?_
                refine Ops.guard_yes rfl rfl rfl rfl g47 ?_
                refine Ops.quiet (Qt.pick_f rfl rfl g56) rfl ?_
                refine Ops.quiet (Qt.pick_f rfl rfl g47) rfl ?_
                refine Ops.nil ?_
                refine H.then_normal ?_
                refine H.cond_false rfl (by rfl) ?_
                refine H.skip ?_
                refine H.then_normal ?_
                refine H.seq ?_
                refine H.seq ?_
                refine H.region ?_
                refine Ops.quiet (Qt.move rfl) rfl ?_
                refine Ops.quiet (Qt.len_str rfl (tk rfl)) rfl ?_
                refine Ops.quiet (Qt.eql rfl rfl) rfl ?_
                refine Ops.nil ?_
                refine H.then_normal ?_
                refine H.cond rfl (fun h64 => ?_) (fun h64 => ?_)
                · try simp only [decide_eq_true_eq, decide_eq_false_iff_not, beq_iff_eq, beq_eq_false_iff_ne, bne_iff_ne, ne_eq, Bool.not_eq_true', Bool.not_eq_false', bne_eq_false_iff_eq, Bool.not_eq_eq_eq_not, Bool.not_true, Bool.not_false] at h64
                  refine H.seq ?_
                  refine H.region ?_
                  refine Ops.quiet (Qt.move rfl) rfl ?_
                  refine Ops.quiet (Qt.assign rfl) rfl ?_
                  refine Ops.quiet (Qt.assign rfl) rfl ?_
                  refine Ops.quiet (Qt.assign rfl) rfl ?_
                  refine Ops.quiet (Qt.assign rfl) rfl ?_
                  refine Ops.nil ?_
                  refine H.then_normal ?_
                  refine H.ret ?_
                  refine H.then_ret ?_
                  refine (H.ends_to (cs' := cs) rfl (.cons (.tmp rfl) (.cons (.tmp rfl) (.cons (.tmp rfl) (.cons (.tmp rfl) .nil)))) (fun w hw => ?_) ?_)
                  · exact hw.tail
                  · refine ⟨?_, rfl⟩
                    rw [g14', oneL_val (by omega) hT2, if_pos (by omega), if_pos (by omega)]; rfl
                · try simp only [decide_eq_true_eq, decide_eq_false_iff_not, beq_iff_eq, beq_eq_false_iff_ne, bne_iff_ne, ne_eq, Bool.not_eq_true', Bool.not_eq_false', bne_eq_false_iff_eq, Bool.not_eq_eq_eq_not, Bool.not_true, Bool.not_false] at h64
                  refine H.skip ?_
                  refine H.then_normal ?_
                  refine H.seq ?_
                  refine H.drawn_all 8 mixed (by kernel_rfl) ?_
                  refine Hd.quiet 0 (by kernel_rfl) rfl rfl (by kernel_rfl) rfl (Qt.move rfl) ?_
                  refine Hd.quiet 1 (by kernel_rfl) rfl rfl (by kernel_rfl) rfl (Qt.move rfl) ?_
                  refine Hd.quiet 2 (by kernel_rfl) rfl rfl (by kernel_rfl) rfl (Qt.sidx rfl rfl (tk rfl) (by omega) (by omega)) ?_
                  refine Hd.quiet 3 (by kernel_rfl) rfl rfl (by kernel_rfl) rfl (Qt.eql rfl rfl) ?_
                  refine Hd.quiet 4 (by kernel_rfl) rfl rfl (by kernel_rfl) rfl (Qt.move rfl) ?_
                  refine Hd.quiet 5 (by kernel_rfl) rfl rfl (by kernel_rfl) rfl (Qt.sslice rfl (tk rfl) rfl rfl (by omega) (by omega) (by omega)) ?_
                  refine Hd.quiet 6 (by kernel_rfl) rfl rfl (by kernel_rfl) rfl (Qt.assign rfl) ?_
                  refine Hd.quiet 7 (by kernel_rfl) rfl rfl (by kernel_rfl) rfl (Qt.assign rfl) ?_
                  refine Hd.tail (by intro w hw; first | exact hw | exact Own.sub (by repeat (first | exact List.Sublist.refl _ | exact List.nil_sublist _ | apply List.Sublist.cons_cons | apply List.Sublist.cons)) hw) (by kernel_rfl) rfl ?_
                  refine Ops.quiet (Qt.assign rfl) rfl ?_
                  refine Ops.quiet (Qt.assign rfl) rfl ?_
                  refine Ops.nil ?_
                  refine H.then_normal ?_
                  refine H.ret ?_
                  refine (H.ends_to (cs' := cs) rfl (.cons (.tmp rfl) (.cons (.tmp rfl) (.cons (.tmp rfl) (.cons (.tmp rfl) .nil)))) (fun w hw => ?_) ?_)
                  · exact hw.tail
                  · refine ⟨?_, rfl⟩
                    rw [g14', oneL_val (by omega) hT2, if_pos (by omega), if_neg (by omega)]
                    have e2 : (s.drop 4).take (s.length - 4) = s.drop 4 := List.take_of_length_le (by simp)
                    show Value.tuple #[num (code3 s), bol (((s.getD (Int.toNat 3) 0).toNat : Int) == 45), str ((s.drop 4).take (s.length - 4)), bol true] = _
                    rw [e2]
          · have g47' := g47
            try simp only [decide_eq_true_eq, decide_eq_false_iff_not, beq_iff_eq, beq_eq_false_iff_ne, bne_iff_ne, ne_eq, Bool.not_eq_true', Bool.not_eq_false', bne_eq_false_iff_eq, Bool.not_eq_eq_eq_not, Bool.not_true, Bool.not_false] at g47'
            refine Ops.guard_no rfl rfl rfl rfl g47 ?_
            refine Ops.guard_no rfl rfl rfl rfl g47 ?_
            refine Ops.guard_no rfl rfl rfl rfl g47 ?_
            refine Ops.guard_un rfl rfl rfl rfl ?_
            refine Ops.guard_un rfl rfl rfl rfl ?_
            refine Ops.guard_un rfl rfl rfl rfl ?_
            refine Ops.guard_no rfl rfl rfl rfl g47 ?_
            refine Ops.guard_no rfl rfl rfl rfl g47 ?_
            refine Ops.guard_un rfl rfl rfl rfl ?_
            refine Ops.guard_un rfl rfl rfl rfl ?_
            refine Ops.guard_un rfl rfl rfl rfl ?_
            refine Ops.guard_no rfl rfl rfl rfl g47 ?_
            refine Ops.quiet (Qt.pick_t rfl rfl g47) rfl ?_
            refine Ops.nil ?_
            refine H.then_normal ?_
            refine H.cond_true rfl (by rfl) ?_
            refine H.seq ?_
            refine H.region ?_
            refine Ops.quiet (Qt.assign rfl) rfl ?_
            refine Ops.quiet (Qt.assign rfl) rfl ?_
            refine Ops.quiet (Qt.assign rfl) rfl ?_
            refine Ops.quiet (Qt.assign rfl) rfl ?_
            refine Ops.nil ?_
            refine H.then_normal ?_
            refine H.ret ?_
            refine H.then_ret ?_
            refine (H.ends_to (cs' := cs) rfl (.cons (.tmp rfl) (.cons (.tmp rfl) (.cons (.tmp rfl) (.cons (.tmp rfl) .nil)))) (fun w hw => ?_) ?_)
            · exact hw.tail
            · refine ⟨?_, rfl⟩
              rw [g14', oneL_val (by omega) hT2, if_neg (by omega)]; rfl
        · have g43' := g43
          try simp only [decide_eq_true_eq, decide_eq_false_iff_not, beq_iff_eq, beq_eq_false_iff_ne, bne_iff_ne, ne_eq, Bool.not_eq_true', Bool.not_eq_false', bne_eq_false_iff_eq, Bool.not_eq_eq_eq_not, Bool.not_true, Bool.not_false] at g43'
          refine Ops.guard_no rfl rfl rfl rfl g43 ?_
          refine Ops.quiet (Qt.pick_t rfl rfl g43) rfl ?_
          refine Ops.quiet (Qt.move rfl) rfl ?_
          refine Ops.guard rfl rfl rfl rfl (fun g47 => ?_) (fun g47 => ?_)
          · have g47' := g47
            try simp only [decide_eq_true_eq, decide_eq_false_iff_not, beq_iff_eq, beq_eq_false_iff_ne, bne_iff_ne, ne_eq, Bool.not_eq_true', Bool.not_eq_false', bne_eq_false_iff_eq, Bool.not_eq_eq_eq_not, Bool.not_true, Bool.not_false] at g47'
            exact Bool.noConfusion g47
          · have g47' := g47
            try simp only [decide_eq_true_eq, decide_eq_false_iff_not, beq_iff_eq, beq_eq_false_iff_ne, bne_iff_ne, ne_eq, Bool.not_eq_true', Bool.not_eq_false', bne_eq_false_iff_eq, Bool.not_eq_eq_eq_not, Bool.not_true, Bool.not_false] at g47'
            refine Ops.guard_no rfl rfl rfl rfl g47 ?_
            refine Ops.guard_no rfl rfl rfl rfl g47 ?_
            refine Ops.guard_no rfl rfl rfl rfl g47 ?_
            refine Ops.guard_un rfl rfl rfl rfl ?_
            refine Ops.guard_un rfl rfl rfl rfl ?_
            refine Ops.guard_un rfl rfl rfl rfl ?_
            refine Ops.guard_no rfl rfl rfl rfl g47 ?_
            refine Ops.guard_no rfl rfl rfl rfl g47 ?_
            refine Ops.guard_un rfl rfl rfl rfl ?_
            refine Ops.guard_un rfl rfl rfl rfl ?_
            refine Ops.guard_un rfl rfl rfl rfl ?_
            refine Ops.guard_no rfl rfl rfl rfl g47 ?_
            refine Ops.quiet (Qt.pick_t rfl rfl g47) rfl ?_
            refine Ops.nil ?_
            refine H.then_normal ?_
            refine H.cond_true rfl (by rfl) ?_
            refine H.seq ?_
            refine H.region ?_
            refine Ops.quiet (Qt.assign rfl) rfl ?_
            refine Ops.quiet (Qt.assign rfl) rfl ?_
            refine Ops.quiet (Qt.assign rfl) rfl ?_
            refine Ops.quiet (Qt.assign rfl) rfl ?_
            refine Ops.nil ?_
            refine H.then_normal ?_
            refine H.ret ?_
            refine H.then_ret ?_
            refine (H.ends_to (cs' := cs) rfl (.cons (.tmp rfl) (.cons (.tmp rfl) (.cons (.tmp rfl) (.cons (.tmp rfl) .nil)))) (fun w hw => ?_) ?_)
            · exact hw.tail
            · refine ⟨?_, rfl⟩
              rw [g14', oneL_val (by omega) hT2, if_neg (by omega)]; rfl
  · have g14' := g14
    try simp only [decide_eq_true_eq, decide_eq_false_iff_not, beq_iff_eq, beq_eq_false_iff_ne, bne_iff_ne, ne_eq, Bool.not_eq_true', Bool.not_eq_false', bne_eq_false_iff_eq, Bool.not_eq_eq_eq_not, Bool.not_true, Bool.not_false] at g14'
    refine Ops.guard_no rfl rfl rfl rfl g14 ?_
    refine Ops.guard_no rfl rfl rfl rfl g14 ?_
    refine Ops.quiet (Qt.pick_t rfl rfl g14) rfl ?_
    refine Ops.nil ?_
    refine H.then_normal ?_
    refine H.cond_true rfl (by rfl) ?_
    refine H.seq ?_
    refine H.region ?_
    refine Ops.quiet (Qt.assign rfl) rfl ?_
    refine Ops.quiet (Qt.assign rfl) rfl ?_
    refine Ops.quiet (Qt.assign rfl) rfl ?_
    refine Ops.quiet (Qt.assign rfl) rfl ?_
    refine Ops.nil ?_
    refine H.then_normal ?_
    refine H.ret ?_
    refine H.then_ret ?_
    refine (H.ends_to (cs' := cs) rfl (.cons (.tmp rfl) (.cons (.tmp rfl) (.cons (.tmp rfl) (.cons (.tmp rfl) .nil)))) (fun w hw => ?_) ?_)
    · exact hw.tail
    · refine ⟨?_, rfl⟩
      rw [oneL_bad (.inl g14')]; rfl
end Go.Proofs.YtimldpbddkhedaaDoor
