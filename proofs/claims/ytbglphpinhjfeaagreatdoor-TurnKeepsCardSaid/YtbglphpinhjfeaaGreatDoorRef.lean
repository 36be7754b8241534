/- The document's answer for the session with the next hop: its plain parts. -/
import Derived.Test.YtbglphpinhjfeaaGreatDoorBld
import Derived.Test.YtbglphpinhjfeaaGreatDoorRpl
namespace Go.Proofs.YtbglphpinhjfeaaGreatDoor
open Go Go.RowKit
set_option maxRecDepth 100000
set_option linter.unusedVariables false
set_option linter.unusedSimpArgs false
attribute [local irreducible] Go.wpList Go.Code.wp Go.Exit.then Go.Exit.inBlock Go.Exit.noGoto Ends blk osl oblk LoopI Own Spec
theorem indexByte_contains : ∀ (s : Bs) (x : UInt8), decide (0 ≤ Lib.indexByte s x) = s.contains x
  | [], x => by simp [Lib.indexByte]
  | b :: l, x => by
    have ih := indexByte_contains l x
    have hge := Lib.indexByte_ge l x
    unfold Lib.indexByte
    by_cases hb : b = x
    · subst hb; simp
    · have hb' : (b == x) = false := by simpa using hb
      have hb2 : (x == b) = false := by simpa using fun e => hb e.symm
      rw [List.contains_cons, hb2, Bool.false_or, ← ih, hb']
      simp only [Bool.false_eq_true, if_false]
      by_cases h1 : Lib.indexByte l x = -1
      · simp [h1]
      · have h2 : (Lib.indexByte l x == -1) = false := by simpa using h1
        rw [h2]
        simp only [Bool.false_eq_true, if_false]
        exact decide_eq_decide.2 (by omega)
theorem contains_snoc (x : UInt8) (a : Bs) (y : UInt8) : (a ++ [y]).contains x = (a.contains x || (y == x)) := by
  have h : (x == y) = (y == x) := Bool.eq_iff_iff.2 ⟨fun h => by rw [beq_iff_eq] at h ⊢; exact h.symm, fun h => by rw [beq_iff_eq] at h ⊢; exact h.symm⟩
  simp only [List.contains_eq_any_beq, List.any_append, List.any_cons, List.any_nil, Bool.or_false, h]
theorem contains_take_succ (s : Bs) (x : UInt8) (k : Nat) (h : k < s.length) : (s.take (k + 1)).contains x = ((s.take k).contains x || (s.getD k 0 == x)) := by
  rw [List.take_succ_eq_append_getElem h, contains_snoc]
  simp [List.getD_eq_getElem?_getD, h]
theorem u8_eq {a b : UInt8} (h : (a.toNat : Int) = b.toNat) : a = b := UInt8.toNat_inj.1 (by omega)
theorem getD_mem' {s : Bs} {k : Nat} (h : k < s.length) : s.getD k 0 ∈ s := by
  rw [List.getD_eq_getElem?_getD, List.getElem?_eq_getElem h]; simp
theorem spec_rin (w0 : World) (s : Bs) (x : UInt8) (cs : List SProp) (hl : s.length ≤ 4611686018427387904) : Spec Tryz.prog w0 35 [str s, u8v x] cs (fun v cs' => v = bol (s.contains x) ∧ cs' = cs) := by
  refine Spec.of_body Tryz.func35 rfl Tryz.ntmps35 rfl ?_
  refine H.seq ?_
  refine H.region ?_
  refine Ops.quiet (Qt.assign rfl) rfl ?_
  refine Ops.nil ?_
  refine H.then_normal ?_
  refine H.seq ?_
  refine H.seq ?_
  refine H.region ?_
  refine Ops.quiet (Qt.assign rfl) rfl ?_
  refine Ops.nil ?_
  refine H.then_normal ?_
  refine H.block ?_
  refine H.loop (X := Nat) (fun k => [(0, str s), (1, u8v x), (5, num k)]) (fun k => cs) (fun k => k ≤ s.length ∧ (s.take k).contains x = false) (fun k => s.length - k) 0 ⟨Nat.zero_le _, by simp⟩ (by repeat (first | exact trivial | refine ⟨rfl, ?_⟩)) (fun w hw => hw) ?_
  intro k ⟨hk, hc⟩
  refine H.seq ?_
  refine H.seq ?_
  refine H.region ?_
  refine Ops.quiet (Qt.move rfl) rfl ?_
  refine Ops.quiet (Qt.move rfl) rfl ?_
  refine Ops.quiet (Qt.len_str rfl (tk rfl)) rfl ?_
  refine Ops.quiet (Qt.lss rfl rfl) rfl ?_
  refine Ops.nil ?_
  refine H.then_normal ?_
  refine H.cond rfl (fun h9 => ?_) (fun h9 => ?_)
  · try simp only [decide_eq_true_eq, decide_eq_false_iff_not, beq_iff_eq, beq_eq_false_iff_ne, bne_iff_ne, ne_eq, Bool.not_eq_true', Bool.not_eq_false', bne_eq_false_iff_eq, Bool.not_eq_eq_eq_not, Bool.not_true, Bool.not_false] at h9
    have hk' : k < s.length := by omega
    have hs := contains_take_succ s x k hk'
    refine H.skip ?_
    refine H.then_normal ?_
    refine H.seq ?_
    refine H.block ?_
    refine H.seq ?_
    refine H.region ?_
    refine Ops.quiet (Qt.move rfl) rfl ?_
    refine Ops.quiet (Qt.move rfl) rfl ?_
    refine Ops.quiet (Qt.sidx rfl rfl (tk rfl) (by omega) (by omega)) rfl ?_
    refine Ops.quiet (Qt.move rfl) rfl ?_
    refine Ops.quiet (Qt.eql rfl rfl) rfl ?_
    refine Ops.nil ?_
    refine H.then_normal ?_
    refine H.cond rfl (fun h16 => ?_) (fun h16 => ?_)
    · try simp only [decide_eq_true_eq, decide_eq_false_iff_not, beq_iff_eq, beq_eq_false_iff_ne, bne_iff_ne, ne_eq, Bool.not_eq_true', Bool.not_eq_false', bne_eq_false_iff_eq, Bool.not_eq_eq_eq_not, Bool.not_true, Bool.not_false] at h16
      refine H.seq ?_
      refine H.region ?_
      refine Ops.quiet (Qt.assign rfl) rfl ?_
      refine Ops.nil ?_
      refine H.then_normal ?_
      refine H.ret ?_
      refine H.blk_ret ?_
      refine H.then_ret ?_
      refine H.then_ret ?_
      refine H.blk_ret ?_
      refine H.then_ret ?_
      have hx : s.getD k 0 = x := u8_eq h16
      refine (H.ends rfl (.cons (.tmp rfl) .nil) ?_)
      have e1 : s.contains x = true := List.contains_iff_mem.2 (hx ▸ getD_mem' hk')
      exact ⟨by rw [e1]; rfl, rfl⟩
    · try simp only [decide_eq_true_eq, decide_eq_false_iff_not, beq_iff_eq, beq_eq_false_iff_ne, bne_iff_ne, ne_eq, Bool.not_eq_true', Bool.not_eq_false', bne_eq_false_iff_eq, Bool.not_eq_eq_eq_not, Bool.not_true, Bool.not_false] at h16
      refine H.skip ?_
      refine H.blk_normal ?_
      refine H.then_normal ?_
      refine H.region ?_
      refine Ops.quiet (Qt.move rfl) rfl ?_
      refine Ops.quiet (Qt.add64 rfl rfl (by omega) (by omega)) rfl ?_
      refine Ops.quiet (Qt.assign rfl) rfl ?_
      refine Ops.nil ?_
      refine H.then_normal ?_
      have hx : (s.getD k 0 == x) = false := by
        rw [beq_eq_false_iff_ne]; intro h; exact h16 (by show ((s.getD k 0).toNat : Int) = _; rw [h])
      refine H.round (k + 1) ⟨by omega, by rw [hs, hc, hx]; rfl⟩ (by omega) (by repeat (first | exact trivial | refine ⟨rfl, ?_⟩)) (fun w hw => hw)
  · try simp only [decide_eq_true_eq, decide_eq_false_iff_not, beq_iff_eq, beq_eq_false_iff_ne, bne_iff_ne, ne_eq, Bool.not_eq_true', Bool.not_eq_false', bne_eq_false_iff_eq, Bool.not_eq_eq_eq_not, Bool.not_true, Bool.not_false] at h9
    refine H.exit ?_
    refine H.then_exit ?_
    refine H.then_exit ?_
    refine H.blk_hit ?_
    refine H.then_normal ?_
    refine H.seq ?_
    refine H.region ?_
    refine Ops.quiet (Qt.assign rfl) rfl ?_
    refine Ops.nil ?_
    refine H.then_normal ?_
    refine H.ret ?_
    have e1 : s.take k = s := List.take_of_length_le (by omega)
    rw [e1] at hc
    refine (H.ends rfl (.cons (.tmp rfl) .nil) ?_)
    exact ⟨by rw [hc]; rfl, rfl⟩
theorem spec_rsize (w0 : World) (l : List Bs) {A : Option Addr} {n c : Nat} (cs : List SProp) (hr : Reads w0 cs A n c (l.map str)) (hs : sizeL l ≤ 4611686018427387904) :
    Spec Tryz.prog w0 36 [.slice A n c] cs (fun v cs' => v = num (sizeL l) ∧ cs' = cs) := by
  refine Spec.of_body Tryz.func36 rfl Tryz.ntmps36 rfl ?_
  refine H.fact (fun w hw => (hr w hw).facts) fun ⟨hl, hcap, hmax, hnil⟩ => ?_
  simp only [List.length_map] at hl
  refine H.seq ?_
  refine H.region ?_
  refine Ops.quiet (Qt.assign rfl) rfl ?_
  refine Ops.nil ?_
  refine H.then_normal ?_
  refine H.seq ?_
  refine H.region ?_
  refine Ops.quiet (Qt.assign rfl) rfl ?_
  refine Ops.nil ?_
  refine H.then_normal ?_
  refine H.seq ?_
  refine H.seq ?_
  refine H.region ?_
  refine Ops.quiet (Qt.assign rfl) rfl ?_
  refine Ops.nil ?_
  refine H.then_normal ?_
  refine H.block ?_
  refine H.loop (X := Nat) (fun k => [(0, .slice A n c), (3, num (sizeL (l.take k))), (4, num k)]) (fun k => cs) (fun k => k ≤ n) (fun k => n - k) 0 (Nat.zero_le _) (by repeat (first | exact trivial | refine ⟨rfl, ?_⟩)) (fun w hw => hw) ?_
  intro k hk
  refine H.seq ?_
  refine H.seq ?_
  refine H.region ?_
  refine Ops.quiet (Qt.move rfl) rfl ?_
  refine Ops.quiet (Qt.move rfl) rfl ?_
  refine Ops.quiet (Qt.len_sl (ats := #[]) rfl (tk rfl)) rfl ?_
  refine Ops.quiet (Qt.lss rfl rfl) rfl ?_
  refine Ops.nil ?_
  refine H.then_normal ?_
  refine H.cond rfl (fun h8 => ?_) (fun h8 => ?_)
  · try simp only [decide_eq_true_eq, decide_eq_false_iff_not, beq_iff_eq, beq_eq_false_iff_ne, bne_iff_ne, ne_eq, Bool.not_eq_true', Bool.not_eq_false', bne_eq_false_iff_eq, Bool.not_eq_eq_eq_not, Bool.not_true, Bool.not_false] at h8
    have hk' : k < l.length := by omega
    obtain ⟨hz1, hz2⟩ := sizeL_take l k hk'
    have hz3 : ((sizeL (l.take (k + 1)) : Nat) : Int) = (sizeL (l.take k) : Int) + ((l.getD (k : Int).toNat []).length : Int) + 2 := by show _ = (sizeL (l.take k) : Int) + ((l.getD k []).length : Int) + 2; omega
    refine H.skip ?_
    refine H.then_normal ?_
    refine H.seq ?_
    refine H.block ?_
    refine H.region ?_
    refine Ops.quiet (Qt.move rfl) rfl ?_
    refine Ops.quiet (Qt.move rfl) rfl ?_
    refine Ops.quiet (Qt.move rfl) rfl ?_
    refine Ops.quiet (Qt.indexAddr rfl rfl (tk rfl) (tk rfl) rfl (by repeat (first | assumption | exact Reads.of_head | apply Reads.tail)) (by omega) (by omega)) rfl ?_
    refine Ops.quiet (Qt.load_map ([] : List UInt8) rfl (tk rfl) rfl (by repeat (first | assumption | exact Reads.of_head | apply Reads.tail)) (by omega)) rfl ?_
    refine Ops.quiet (Qt.len_str rfl (tk rfl)) rfl ?_
    refine Ops.quiet (Qt.add64 rfl rfl (by omega) (by omega)) rfl ?_
    refine Ops.quiet (Qt.add64 rfl rfl (by omega) (by omega)) rfl ?_
    refine Ops.quiet (Qt.assign rfl) rfl ?_
    refine Ops.nil ?_
    refine H.blk_normal ?_
    refine H.then_normal ?_
    refine H.region ?_
    refine Ops.quiet (Qt.move rfl) rfl ?_
    refine Ops.quiet (Qt.add64 rfl rfl (by omega) (by omega)) rfl ?_
    refine Ops.quiet (Qt.assign rfl) rfl ?_
    refine Ops.nil ?_
    refine H.then_normal ?_
    refine H.round (k + 1) (by omega) (by omega) (by rw [hz3]; repeat (first | exact trivial | refine ⟨rfl, ?_⟩)) (fun w hw => hw)
  · try simp only [decide_eq_true_eq, decide_eq_false_iff_not, beq_iff_eq, beq_eq_false_iff_ne, bne_iff_ne, ne_eq, Bool.not_eq_true', Bool.not_eq_false', bne_eq_false_iff_eq, Bool.not_eq_eq_eq_not, Bool.not_true, Bool.not_false] at h8
    refine H.exit ?_
    refine H.then_exit ?_
    refine H.then_exit ?_
    refine H.blk_hit ?_
    refine H.then_normal ?_
    refine H.seq ?_
    refine H.region ?_
    refine Ops.quiet (Qt.move rfl) rfl ?_
    refine Ops.quiet (Qt.assign rfl) rfl ?_
    refine Ops.nil ?_
    refine H.then_normal ?_
    refine H.ret ?_
    have e1 : l.take k = l := List.take_of_length_le (by omega)
    refine (H.ends rfl (.cons (.tmp rfl) .nil) ?_)
    exact ⟨by rw [e1]; rfl, rfl⟩
theorem okB_eq (s : Bs) : okB s = !(s.contains 0 || s.contains 10 || s.contains 13 || decide (997 < (s.length : Int))) := by
  unfold okB
  rw [indexByte_contains, indexByte_contains, indexByte_contains]
theorem spec_rgood (w0 : World) (l : List Bs) {A : Option Addr} {n c : Nat} (cs : List SProp) (hr : Reads w0 cs A n c (l.map str)) (hn : l.length ≤ 100000000000000) (hs : ∀ s ∈ l, s.length ≤ 4611686018427387904) :
    Spec Tryz.prog w0 19 [.slice A n c] cs (fun v cs' => v = bol (goodB l) ∧ cs' = cs) := by
  refine Spec.of_body Tryz.func19 rfl Tryz.ntmps19 rfl ?_
  refine H.fact (fun w hw => (hr w hw).facts) fun ⟨hl, hcap, hmax, hnil⟩ => ?_
  simp only [List.length_map] at hl
  refine H.seq ?_
  refine H.region ?_
  refine Ops.quiet (Qt.assign rfl) rfl ?_
  refine Ops.nil ?_
  refine H.then_normal ?_
  refine H.seq ?_
  refine H.seq ?_
  refine H.region ?_
  refine Ops.quiet (Qt.assign rfl) rfl ?_
  refine Ops.nil ?_
  refine H.then_normal ?_
  refine H.block ?_
  refine H.loop (X := Nat) (fun k => [(0, .slice A n c), (3, num k)]) (fun k => cs) (fun k => k ≤ n ∧ ∀ j, j < k → okB (l.getD j []) = true) (fun k => n - k) 0 ⟨Nat.zero_le _, fun j h => absurd h (Nat.not_lt_zero _)⟩ (by repeat (first | exact trivial | refine ⟨rfl, ?_⟩)) (fun w hw => hw) ?_
  intro k ⟨hk, hg⟩
  refine H.seq ?_
  refine H.seq ?_
  refine H.region ?_
  refine Ops.quiet (Qt.move rfl) rfl ?_
  refine Ops.quiet (Qt.move rfl) rfl ?_
  refine Ops.quiet (Qt.len_sl (ats := #[]) rfl (tk rfl)) rfl ?_
  refine Ops.quiet (Qt.lss rfl rfl) rfl ?_
  refine Ops.nil ?_
  refine H.then_normal ?_
  refine H.cond rfl (fun h7 => ?_) (fun h7 => ?_)
  · try simp only [decide_eq_true_eq, decide_eq_false_iff_not, beq_iff_eq, beq_eq_false_iff_ne, bne_iff_ne, ne_eq, Bool.not_eq_true', Bool.not_eq_false', bne_eq_false_iff_eq, Bool.not_eq_eq_eq_not, Bool.not_true, Bool.not_false] at h7
    have hk' : k < l.length := by omega
    have hmem : l.getD k [] ∈ l := by rw [List.getD_eq_getElem?_getD, List.getElem?_eq_getElem hk']; simp
    obtain ⟨s, hs1⟩ : ∃ s, s = l.getD (k : Int).toNat [] := ⟨_, rfl⟩
    have hs' : s = l.getD k [] := hs1
    have hsl := hs _ hmem
    rw [← hs'] at hsl
    refine H.skip ?_
    refine H.then_normal ?_
    refine H.seq ?_
    refine H.block ?_
    refine H.seq ?_
    refine H.region ?_
    refine Ops.quiet (Qt.move rfl) rfl ?_
    refine Ops.quiet (Qt.move rfl) rfl ?_
    refine Ops.quiet (Qt.indexAddr rfl rfl (tk rfl) (tk rfl) rfl (by repeat (first | assumption | exact Reads.of_head | apply Reads.tail)) (by omega) (by omega)) rfl ?_
    refine Ops.quiet (Qt.load_map ([] : List UInt8) rfl (tk rfl) rfl (by repeat (first | assumption | exact Reads.of_head | apply Reads.tail)) (by omega)) rfl ?_
    refine Ops.quiet (Qt.len_str rfl (tk rfl)) rfl ?_
    refine Ops.quiet (Qt.gtr rfl rfl) rfl ?_
    refine Ops.quiet (Qt.move rfl) rfl ?_
    refine Ops.guard rfl rfl rfl rfl (fun g16 => ?_) (fun g16 => ?_)
    · have g16' := g16
      try simp only [decide_eq_true_eq, decide_eq_false_iff_not, beq_iff_eq, beq_eq_false_iff_ne, bne_iff_ne, ne_eq, Bool.not_eq_true', Bool.not_eq_false', bne_eq_false_iff_eq, Bool.not_eq_eq_eq_not, Bool.not_true, Bool.not_false] at g16'
      refine Ops.quiet (Qt.move rfl) rfl ?_
      refine Ops.guard_yes rfl rfl rfl rfl g16 ?_
      refine Ops.quiet (Qt.move rfl) rfl ?_
      refine Ops.guard_yes rfl rfl rfl rfl g16 ?_
      refine Ops.quiet (Qt.indexAddr rfl rfl (tk rfl) (tk rfl) rfl (by repeat (first | assumption | exact Reads.of_head | apply Reads.tail)) (by omega) (by omega)) rfl ?_
      refine Ops.guard_yes rfl rfl rfl rfl g16 ?_
      refine Ops.quiet (Qt.load_map ([] : List UInt8) rfl (tk rfl) rfl (by repeat (first | assumption | exact Reads.of_head | apply Reads.tail)) (by omega)) rfl ?_
      refine Ops.guard_yes rfl rfl rfl rfl g16 ?_
      refine Ops.eff (Ef.call (fok fab_all rfl Tryz.func35 rfl) rfl (spec_rin w0 (l.getD (k : Int).toNat []) 0 _ (by rw [← hs1]; omega))) rfl ?_
      rintro _ _ ⟨rfl, rfl⟩
      refine Ops.quiet (Qt.pick_f rfl rfl g16) rfl ?_
      refine Ops.quiet (Qt.move rfl) rfl ?_
      refine Ops.guard rfl rfl rfl rfl (fun g23 => ?_) (fun g23 => ?_)
      · have g23' := g23
        try simp only [decide_eq_true_eq, decide_eq_false_iff_not, beq_iff_eq, beq_eq_false_iff_ne, bne_iff_ne, ne_eq, Bool.not_eq_true', Bool.not_eq_false', bne_eq_false_iff_eq, Bool.not_eq_eq_eq_not, Bool.not_true, Bool.not_false] at g23'
        refine Ops.quiet (Qt.move rfl) rfl ?_
        refine Ops.guard_yes rfl rfl rfl rfl g23 ?_
        refine Ops.quiet (Qt.move rfl) rfl ?_
        refine Ops.guard_yes rfl rfl rfl rfl g23 ?_
        refine Ops.quiet (Qt.indexAddr rfl rfl (tk rfl) (tk rfl) rfl (by repeat (first | assumption | exact Reads.of_head | apply Reads.tail)) (by omega) (by omega)) rfl ?_
        refine Ops.guard_yes rfl rfl rfl rfl g23 ?_
        refine Ops.quiet (Qt.load_map ([] : List UInt8) rfl (tk rfl) rfl (by repeat (first | assumption | exact Reads.of_head | apply Reads.tail)) (by omega)) rfl ?_
        refine Ops.guard_yes rfl rfl rfl rfl g23 ?_
        refine Ops.eff (Ef.call (fok fab_all rfl Tryz.func35 rfl) rfl (spec_rin w0 (l.getD (k : Int).toNat []) 10 _ (by rw [← hs1]; omega))) rfl ?_
        rintro _ _ ⟨rfl, rfl⟩
        refine Ops.quiet (Qt.pick_f rfl rfl g23) rfl ?_
        refine Ops.quiet (Qt.move rfl) rfl ?_
        refine Ops.guard rfl rfl rfl rfl (fun g30 => ?_) (fun g30 => ?_)
        · have g30' := g30
          try simp only [decide_eq_true_eq, decide_eq_false_iff_not, beq_iff_eq, beq_eq_false_iff_ne, bne_iff_ne, ne_eq, Bool.not_eq_true', Bool.not_eq_false', bne_eq_false_iff_eq, Bool.not_eq_eq_eq_not, Bool.not_true, Bool.not_false] at g30'
          refine Ops.quiet (Qt.move rfl) rfl ?_
          refine Ops.guard_yes rfl rfl rfl rfl g30 ?_
          refine Ops.quiet (Qt.move rfl) rfl ?_
          refine Ops.guard_yes rfl rfl rfl rfl g30 ?_
          refine Ops.quiet (Qt.indexAddr rfl rfl (tk rfl) (tk rfl) rfl (by repeat (first | assumption | exact Reads.of_head | apply Reads.tail)) (by omega) (by omega)) rfl ?_
          refine Ops.guard_yes rfl rfl rfl rfl g30 ?_
          refine Ops.quiet (Qt.load_map ([] : List UInt8) rfl (tk rfl) rfl (by repeat (first | assumption | exact Reads.of_head | apply Reads.tail)) (by omega)) rfl ?_
          refine Ops.guard_yes rfl rfl rfl rfl g30 ?_
          refine Ops.eff (Ef.call (fok fab_all rfl Tryz.func35 rfl) rfl (spec_rin w0 (l.getD (k : Int).toNat []) 13 _ (by rw [← hs1]; omega))) rfl ?_
          rintro _ _ ⟨rfl, rfl⟩
          refine Ops.quiet (Qt.pick_f rfl rfl g30) rfl ?_
          refine Ops.nil ?_
          refine H.then_normal ?_
          refine H.cond rfl (fun h36 => ?_) (fun h36 => ?_)
          · try simp only [decide_eq_true_eq, decide_eq_false_iff_not, beq_iff_eq, beq_eq_false_iff_ne, bne_iff_ne, ne_eq, Bool.not_eq_true', Bool.not_eq_false', bne_eq_false_iff_eq, Bool.not_eq_eq_eq_not, Bool.not_true, Bool.not_false] at h36
            refine H.seq ?_
            refine H.region ?_
            refine Ops.quiet (Qt.assign rfl) rfl ?_
            refine Ops.nil ?_
            refine H.then_normal ?_
            refine H.ret ?_
            refine H.blk_ret ?_
            refine H.then_ret ?_
            refine H.then_ret ?_
            refine H.blk_ret ?_
            refine H.then_ret ?_
            refine (H.ends rfl (.cons (.tmp rfl) .nil) ?_)
            refine ⟨?_, rfl⟩
            have hb : okB s = false := by
              rw [okB_eq, hs1]
              rw [h36]; simp
            rw [goodB_not (hs' ▸ hmem) hb]; rfl
          · try simp only [decide_eq_true_eq, decide_eq_false_iff_not, beq_iff_eq, beq_eq_false_iff_ne, bne_iff_ne, ne_eq, Bool.not_eq_true', Bool.not_eq_false', bne_eq_false_iff_eq, Bool.not_eq_eq_eq_not, Bool.not_true, Bool.not_false] at h36
            refine H.skip ?_
            refine H.blk_normal ?_
            refine H.then_normal ?_
            refine H.region ?_
            refine Ops.quiet (Qt.move rfl) rfl ?_
            refine Ops.quiet (Qt.add64 rfl rfl (by omega) (by omega)) rfl ?_
            refine Ops.quiet (Qt.assign rfl) rfl ?_
            refine Ops.nil ?_
            refine H.then_normal ?_
            refine H.round (k + 1) ⟨by omega, fun j hj => ?_⟩ (by omega) (by repeat (first | exact trivial | refine ⟨rfl, ?_⟩)) (fun w hw => hw)
            rcases Nat.lt_succ_iff_lt_or_eq.1 hj with hj | rfl
            · exact hg j hj
            · rw [← hs', okB_eq, hs1, g23', g30', h36, decide_eq_false g16']; rfl
        · have g30' := g30
          try simp only [decide_eq_true_eq, decide_eq_false_iff_not, beq_iff_eq, beq_eq_false_iff_ne, bne_iff_ne, ne_eq, Bool.not_eq_true', Bool.not_eq_false', bne_eq_false_iff_eq, Bool.not_eq_eq_eq_not, Bool.not_true, Bool.not_false] at g30'
          refine Ops.guard_no rfl rfl rfl rfl g30 ?_
          refine Ops.guard_no rfl rfl rfl rfl g30 ?_
          refine Ops.guard_no rfl rfl rfl rfl g30 ?_
          refine Ops.guard_no rfl rfl rfl rfl g30 ?_
          refine Ops.quiet (Qt.pick_t rfl rfl g30) rfl ?_
          refine Ops.nil ?_
          refine H.then_normal ?_
          refine H.cond_true rfl (by rfl) ?_
          refine H.seq ?_
          refine H.region ?_
          refine Ops.quiet (Qt.assign rfl) rfl ?_
          refine Ops.nil ?_
          refine H.then_normal ?_
          refine H.ret ?_
          refine H.blk_ret ?_
          refine H.then_ret ?_
          refine H.then_ret ?_
          refine H.blk_ret ?_
          refine H.then_ret ?_
          refine (H.ends rfl (.cons (.tmp rfl) .nil) ?_)
          refine ⟨?_, rfl⟩
          have hb : okB s = false := by
            rw [okB_eq, hs1]
            rw [g30']; simp
          rw [goodB_not (hs' ▸ hmem) hb]; rfl
      · have g23' := g23
        try simp only [decide_eq_true_eq, decide_eq_false_iff_not, beq_iff_eq, beq_eq_false_iff_ne, bne_iff_ne, ne_eq, Bool.not_eq_true', Bool.not_eq_false', bne_eq_false_iff_eq, Bool.not_eq_eq_eq_not, Bool.not_true, Bool.not_false] at g23'
        refine Ops.guard_no rfl rfl rfl rfl g23 ?_
        refine Ops.guard_no rfl rfl rfl rfl g23 ?_
        refine Ops.guard_no rfl rfl rfl rfl g23 ?_
        refine Ops.guard_no rfl rfl rfl rfl g23 ?_
        refine Ops.quiet (Qt.pick_t rfl rfl g23) rfl ?_
        refine Ops.quiet (Qt.move rfl) rfl ?_
        refine Ops.guard rfl rfl rfl rfl (fun g30 => ?_) (fun g30 => ?_)
        · have g30' := g30
          try simp only [decide_eq_true_eq, decide_eq_false_iff_not, beq_iff_eq, beq_eq_false_iff_ne, bne_iff_ne, ne_eq, Bool.not_eq_true', Bool.not_eq_false', bne_eq_false_iff_eq, Bool.not_eq_eq_eq_not, Bool.not_true, Bool.not_false] at g30'
          exact Bool.noConfusion g30
        · have g30' := g30
          try simp only [decide_eq_true_eq, decide_eq_false_iff_not, beq_iff_eq, beq_eq_false_iff_ne, bne_iff_ne, ne_eq, Bool.not_eq_true', Bool.not_eq_false', bne_eq_false_iff_eq, Bool.not_eq_eq_eq_not, Bool.not_true, Bool.not_false] at g30'
          refine Ops.guard_no rfl rfl rfl rfl g30 ?_
          refine Ops.guard_no rfl rfl rfl rfl g30 ?_
          refine Ops.guard_no rfl rfl rfl rfl g30 ?_
          refine Ops.guard_no rfl rfl rfl rfl g30 ?_
          refine Ops.quiet (Qt.pick_t rfl rfl g30) rfl ?_
          refine Ops.nil ?_
          refine H.then_normal ?_
          refine H.cond_true rfl (by rfl) ?_
          refine H.seq ?_
          refine H.region ?_
          refine Ops.quiet (Qt.assign rfl) rfl ?_
          refine Ops.nil ?_
          refine H.then_normal ?_
          refine H.ret ?_
          refine H.blk_ret ?_
          refine H.then_ret ?_
          refine H.then_ret ?_
          refine H.blk_ret ?_
          refine H.then_ret ?_
          refine (H.ends rfl (.cons (.tmp rfl) .nil) ?_)
          refine ⟨?_, rfl⟩
          have hb : okB s = false := by
            rw [okB_eq, hs1]
            rw [g23']; simp
          rw [goodB_not (hs' ▸ hmem) hb]; rfl
    · have g16' := g16
      try simp only [decide_eq_true_eq, decide_eq_false_iff_not, beq_iff_eq, beq_eq_false_iff_ne, bne_iff_ne, ne_eq, Bool.not_eq_true', Bool.not_eq_false', bne_eq_false_iff_eq, Bool.not_eq_eq_eq_not, Bool.not_true, Bool.not_false] at g16'
      refine Ops.guard_no rfl rfl rfl rfl g16 ?_
      refine Ops.guard_no rfl rfl rfl rfl g16 ?_
      refine Ops.guard_no rfl rfl rfl rfl g16 ?_
      refine Ops.guard_no rfl rfl rfl rfl g16 ?_
      refine Ops.quiet (Qt.pick_t rfl rfl g16) rfl ?_
      refine Ops.quiet (Qt.move rfl) rfl ?_
      refine Ops.guard rfl rfl rfl rfl (fun g23 => ?_) (fun g23 => ?_)
      · have g23' := g23
        try simp only [decide_eq_true_eq, decide_eq_false_iff_not, beq_iff_eq, beq_eq_false_iff_ne, bne_iff_ne, ne_eq, Bool.not_eq_true', Bool.not_eq_false', bne_eq_false_iff_eq, Bool.not_eq_eq_eq_not, Bool.not_true, Bool.not_false] at g23'
        exact Bool.noConfusion g23
      · have g23' := g23
        try simp only [decide_eq_true_eq, decide_eq_false_iff_not, beq_iff_eq, beq_eq_false_iff_ne, bne_iff_ne, ne_eq, Bool.not_eq_true', Bool.not_eq_false', bne_eq_false_iff_eq, Bool.not_eq_eq_eq_not, Bool.not_true, Bool.not_false] at g23'
        refine Ops.guard_no rfl rfl rfl rfl g23 ?_
        refine Ops.guard_no rfl rfl rfl rfl g23 ?_
        refine Ops.guard_no rfl rfl rfl rfl g23 ?_
        refine Ops.guard_no rfl rfl rfl rfl g23 ?_
        refine Ops.quiet (Qt.pick_t rfl rfl g23) rfl ?_
        refine Ops.quiet (Qt.move rfl) rfl ?_
        refine Ops.guard rfl rfl rfl rfl (fun g30 => ?_) (fun g30 => ?_)
        · have g30' := g30
          try simp only [decide_eq_true_eq, decide_eq_false_iff_not, beq_iff_eq, beq_eq_false_iff_ne, bne_iff_ne, ne_eq, Bool.not_eq_true', Bool.not_eq_false', bne_eq_false_iff_eq, Bool.not_eq_eq_eq_not, Bool.not_true, Bool.not_false] at g30'
          exact Bool.noConfusion g30
        · have g30' := g30
          try simp only [decide_eq_true_eq, decide_eq_false_iff_not, beq_iff_eq, beq_eq_false_iff_ne, bne_iff_ne, ne_eq, Bool.not_eq_true', Bool.not_eq_false', bne_eq_false_iff_eq, Bool.not_eq_eq_eq_not, Bool.not_true, Bool.not_false] at g30'
          refine Ops.guard_no rfl rfl rfl rfl g30 ?_
          refine Ops.guard_no rfl rfl rfl rfl g30 ?_
          refine Ops.guard_no rfl rfl rfl rfl g30 ?_
          refine Ops.guard_no rfl rfl rfl rfl g30 ?_
          refine Ops.quiet (Qt.pick_t rfl rfl g30) rfl ?_
          refine Ops.nil ?_
          refine H.then_normal ?_
          refine H.cond_true rfl (by rfl) ?_
          refine H.seq ?_
          refine H.region ?_
          refine Ops.quiet (Qt.assign rfl) rfl ?_
          refine Ops.nil ?_
          refine H.then_normal ?_
          refine H.ret ?_
          refine H.blk_ret ?_
          refine H.then_ret ?_
          refine H.then_ret ?_
          refine H.blk_ret ?_
          refine H.then_ret ?_
          refine (H.ends rfl (.cons (.tmp rfl) .nil) ?_)
          refine ⟨?_, rfl⟩
          have hb : okB s = false := by
            rw [okB_eq, hs1]
            rw [decide_eq_true g16']; simp
          rw [goodB_not (hs' ▸ hmem) hb]; rfl
  · try simp only [decide_eq_true_eq, decide_eq_false_iff_not, beq_iff_eq, beq_eq_false_iff_ne, bne_iff_ne, ne_eq, Bool.not_eq_true', Bool.not_eq_false', bne_eq_false_iff_eq, Bool.not_eq_eq_eq_not, Bool.not_true, Bool.not_false] at h7
    have hall : ∀ s ∈ l, okB s = true := by
      intro s hs
      obtain ⟨j, hj, rfl⟩ := List.getElem_of_mem hs
      have := hg j (by omega)
      simpa [List.getD_eq_getElem?_getD, hj] using this
    have hz := sizeL_good hall
    have hall' : l.all okB = true := List.all_eq_true.2 hall
    refine H.exit ?_
    refine H.then_exit ?_
    refine H.then_exit ?_
    refine H.blk_hit ?_
    refine H.then_normal ?_
    refine H.seq ?_
    refine H.region ?_
    refine Ops.quiet (Qt.move rfl) rfl ?_
    refine Ops.eff (Ef.call (fok fab_all rfl Tryz.func36 rfl) rfl (spec_rsize w0 l _ hr (by omega))) rfl ?_
    rintro _ _ ⟨rfl, rfl⟩
    refine Ops.quiet (Qt.leq rfl rfl) rfl ?_
    refine Ops.quiet (Qt.assign rfl) rfl ?_
    refine Ops.nil ?_
    refine H.then_normal ?_
    refine H.ret ?_
    refine (H.ends rfl (.cons (.tmp rfl) .nil) ?_)
    refine ⟨?_, rfl⟩
    unfold goodB
    rw [hall']
    show bol (decide ((sizeL l : Int) ≤ 65536)) = bol (true && decide (sizeL l ≤ 65536))
    rw [Bool.true_and]
    congr 1
    exact decide_eq_decide.2 (by omega)
theorem hasPrefix_dot (s : Bs) : Lib.hasPrefix s [46] = (decide (0 < (s.length : Int)) && (((s.getD 0 0).toNat : Int) == 46)) := by
  cases s with
  | nil => rfl
  | cons b l =>
    have h1 : Lib.hasPrefix (b :: l) [46] = (46 == b) := by simp [Lib.hasPrefix, List.isPrefixOf]
    have h2 : decide (0 < ((b :: l).length : Int)) = true := decide_eq_true (by rw [List.length_cons]; omega)
    rw [h1, h2, Bool.true_and]
    have h3 : (b :: l).getD 0 0 = b := rfl
    rw [h3, Bool.eq_iff_iff]
    simp only [beq_iff_eq]
    constructor
    · intro h; rw [← h]; rfl
    · intro h; exact (u8_eq (b := 46) h).symm
theorem oddB_eq (b : Bs) : oddB b = (b.contains 0 || b.contains 13 || b.contains 10) := by
  unfold oddB
  rw [indexByte_contains, indexByte_contains, indexByte_contains]
def oneL (l : Ln) : Sp := if (splitL l).ok then splitL l else ⟨0, false, [], false⟩
def codeN (s : Bs) : Nat → Int
  | 0 => 0
  | k + 1 => codeN s k * 10 + dg s k
theorem codeN3 (s : Bs) : codeN s 3 = code3 s := by simp [codeN, code3]
theorem wrap_u8 {n : Int} (h0 : 0 ≤ n) (h1 : n ≤ 255) : IntKind.u8.wrap n = n := by
  show (if (false && decide (n % 256 ≥ 128)) = true then n % 256 - 256 else n % 256) = n
  simp only [Bool.false_and, Bool.false_eq_true, if_false]
  omega
theorem Qt.subw {P : Program} {N : Nat} {w0 : World} {e : Env} {cs : List SProp} {ty : TypeId} {x y : Operand} {t t' : TypeId} {k : IntKind} {i j r : Int} (hx : evE e x = some (.int k i)) (hy : evE e y = some (.int k j)) (h : k.wrap (i - j) = r) : Qt P N w0 e cs (.binOp .sub t x y t') ty (.int k r) := h ▸ Qt.sub hx hy
theorem Qt.convw {P : Program} {N : Nat} {w0 : World} {e : Env} {cs : List SProp} {ty : TypeId} {x : Operand} {s d sz by_ : Nat} {si : TI} {k k' : IntKind} {i r : Int} (hx : evE e x = some (.int k i)) (hS : TOk P s si) (hD : TOk P d ⟨.int k', sz, by_⟩) (h : k'.wrap i = r) : Qt P N w0 e cs (.convert s d x) ty (.int k' r) := h ▸ Qt.conv_int hx hS hD
theorem dg_range {s : Bs} {k : Nat} (h : isDg (s.getD k 0) = true) : 0 ≤ dg s k ∧ dg s k ≤ 9 := by
  have := isDg_range h
  unfold dg; omega
theorem oneL_bad {l : Ln} (h : l.kind ≠ 1 ∨ l.text.length < 3) : oneL l = ⟨0, false, [], false⟩ := by
  have : splitL l = ⟨0, false, [], false⟩ := by unfold splitL; rw [if_pos h]
  unfold oneL; rw [this]; rfl
theorem oneL_dig {s : Bs} (h3 : ¬ s.length < 3) (hd : digs s = false) : oneL ⟨1, s⟩ = ⟨0, false, [], false⟩ := by
  have : splitL ⟨1, s⟩ = ⟨0, false, [], false⟩ := by
    unfold splitL
    rw [if_neg (by simp only []; omega), if_pos hd]
  unfold oneL; rw [this]; rfl
theorem oneL_val {s : Bs} (h3 : ¬ s.length < 3) (hd : digs s = true) : oneL ⟨1, s⟩ =
    if (200 ≤ code3 s ∧ code3 s ≤ 599) ∧ (s.length = 3 ∨ ((s.getD (Int.toNat 3) 0).toNat : Int) = 32 ∨ ((s.getD (Int.toNat 3) 0).toNat : Int) = 45) then
      (if s.length = 3 then ⟨code3 s, false, [], true⟩ else ⟨code3 s, ((s.getD (Int.toNat 3) 0).toNat : Int) == 45, s.drop 4, true⟩)
    else ⟨0, false, [], false⟩ := by
  have e3 : s.getD (Int.toNat 3) 0 = s.getD 3 0 := rfl
  rw [e3]
  have hsp : splitL ⟨1, s⟩ = if s.length = 3 then ⟨code3 s, false, [], codeOk (code3 s)⟩
      else ⟨code3 s, ((s.getD 3 0).toNat : Int) == 45, s.drop 4, codeOk (code3 s) && (((s.getD 3 0).toNat : Int) == 32 || ((s.getD 3 0).toNat : Int) == 45)⟩ := by
    unfold splitL
    rw [if_neg (by simp only []; omega), if_neg (by rw [hd]; simp)]
  unfold oneL
  rw [hsp]
  generalize ((s.getD 3 0).toNat : Int) = x
  have hco : codeOk (code3 s) = decide (200 ≤ code3 s ∧ code3 s ≤ 599) := by simp [codeOk]
  by_cases hl : s.length = 3
  · rw [if_pos hl, if_pos hl]
    by_cases hc : 200 ≤ code3 s ∧ code3 s ≤ 599
    · simp [hco, hc, hl]
    · rw [hco, decide_eq_false hc]
      simp only [Bool.false_and, Bool.false_eq_true, if_false]
      rw [if_neg (fun h => hc h.1)]
  · rw [if_neg hl, if_neg hl]
    by_cases hc : 200 ≤ code3 s ∧ code3 s ≤ 599
    · rw [hco, decide_eq_true hc]
      by_cases hx : x = 32
      · simp [hx, hc]
      · by_cases hx2 : x = 45
        · simp [hx2, hc]
        · simp [hx, hx2, hc, hl]
    · rw [hco, decide_eq_false hc]
      simp only [Bool.false_and, Bool.false_eq_true, if_false]
      rw [if_neg (fun h => hc h.1)]
end Go.Proofs.YtbglphpinhjfeaaGreatDoor
