/- The laws of the layer turn. -/
import Derived.Test.YtbglphpinhjfeaaGreatDoorTrn
namespace Go.Proofs.YtbglphpinhjfeaaGreatDoor
open Go Go.RowKit
set_option maxRecDepth 100000
set_option linter.unusedVariables false
set_option linter.unusedSimpArgs false
attribute [local irreducible] Go.wpList Go.Code.wp Go.Exit.then Go.Exit.inBlock Go.Exit.noGoto Ends blk osl oblk LoopI Own Spec
def m0 : Mg := ⟨1, 0, 0, 0, 0, [], [[97, 64, 98]], [], []⟩
theorem m0_good : GoodM m0 := goodM_iff.1 (by kernel_rfl)
theorem m0_b : MB m0 := ⟨by simp [m0], by simp [m0], by simp [m0], by simp [m0], by simp [m0], by simp [m0]⟩
theorem Reads.nil0 {w0 : World} {cs : List SProp} : Reads w0 cs none 0 0 [] := fun w ho => ⟨rfl, Nat.le_refl _, by simp [maxLen], fun _ => rfl, fun j x h => by simp at h⟩
theorem spec_tanswers (w0 : World) (hG : Gp w0) (cs : List SProp) : Spec Tryz.prog w0 6 [] cs (fun v cs' => v = bol true ∧ cs' = cs) := by
  refine Spec.of_body Tryz.func6 rfl Tryz.ntmps6 rfl ?_
  refine H.seq ?_
  refine H.region ?_
  refine Ops.quiet (Qt.assign rfl) rfl ?_
  refine Ops.nil ?_
  refine H.then_normal ?_
  refine H.seq ?_
  refine H.region ?_
  refine Ops.eff (Ef.buildSlice (tk rfl) (tk rfl) rfl (zk rfl) rfl rfl rfl (by repeat (first | exact ones_nil | refine ones_cons rfl ?_))) rfl ?_
  rintro _ _ ⟨A4, c4, rfl, rfl⟩
  refine Ops.quiet (Qt.build (tk rfl) (zk rfl) rfl (by rfl)) rfl ?_
  refine Ops.eff (Ef.call (fok fab_all rfl Tryz.func7 rfl) rfl (spec_tencode w0 hG m0 ⟨⟨A4, 1, c4⟩, ⟨none, 0, 0⟩, ⟨none, 0, 0⟩⟩ m0_b m0_good (f := 1) (.inl rfl) _ ⟨osl_reads (.head _), Reads.nil0, Reads.nil0⟩)) rfl ?_
  rintro _ _ ⟨A6, c6, rfl, rfl⟩
  refine Ops.quiet (Qt.move rfl) rfl ?_
  refine Ops.quiet (Qt.extract rfl rfl) rfl ?_
  refine Ops.quiet (Qt.extract rfl rfl) rfl ?_
  refine Ops.quiet (Qt.assign rfl) rfl ?_
  refine Ops.quiet (Qt.assign rfl) rfl ?_
  refine Ops.nil ?_
  refine H.then_normal ?_
  refine H.seq ?_
  have hs1 := fun cs' (h : Reads w0 cs' A6 (encM m0 1).length c6 ((encM m0 1).map u8v)) => spec_sniff w0 (encM m0 1) cs' h
  rw [sniff_enc m0 (.inl rfl)] at hs1
  refine H.region ?_
  refine Ops.quiet (Qt.move rfl) rfl ?_
  refine Ops.quiet (Qt.eql rfl rfl) rfl ?_
  refine Ops.quiet (Qt.move rfl) rfl ?_
  refine Ops.guard_yes rfl rfl rfl rfl rfl ?_
  refine Ops.quiet (Qt.move rfl) rfl ?_
  refine Ops.guard_yes rfl rfl rfl rfl rfl ?_
  refine Ops.eff (Ef.call (fok fab_all rfl Tryz.func12 rfl) rfl (hs1 _ (by repeat (first | assumption | exact Reads.of_head | apply Reads.tail)))) rfl ?_
  rintro _ c0 ⟨rfl, h0⟩; subst c0
  refine Ops.guard_yes rfl rfl rfl rfl rfl ?_
  refine Ops.quiet (Qt.eql rfl rfl) rfl ?_
  refine Ops.quiet (Qt.pick_t rfl rfl rfl) rfl ?_
  refine Ops.quiet (Qt.move rfl) rfl ?_
  refine Ops.guard_yes rfl rfl rfl rfl rfl ?_
  refine Ops.eff (Ef.buildSlice (tk rfl) (tk rfl) rfl (zk rfl) rfl rfl rfl (by repeat (first | exact ones_nil | refine ones_cons rfl ?_))) rfl ?_
  rintro _ _ ⟨A17, c17, rfl, rfl⟩
  refine Ops.guard_yes rfl rfl rfl rfl rfl ?_
  refine Ops.eff (Ef.call (fok fab_all rfl Tryz.func12 rfl) rfl (spec_sniff w0 [2] _ (osl_reads (.head _)))) rfl ?_
  rintro _ c0 ⟨rfl, h0⟩; subst c0
  refine Ops.guard_yes rfl rfl rfl rfl rfl ?_
  refine Ops.quiet (Qt.eql rfl rfl) rfl ?_
  refine Ops.quiet (Qt.pick_t rfl rfl rfl) rfl ?_
  refine Ops.quiet (Qt.assign rfl) rfl ?_
  refine Ops.nil ?_
  refine H.then_normal ?_
  refine H.ret ?_
  refine (H.ends_to (cs' := cs) rfl (.cons (.tmp rfl) .nil) (fun w hw => ?_) ?_)
  · exact hw.sub (by repeat (first | exact List.Sublist.refl _ | exact List.nil_sublist _ | apply List.Sublist.cons_cons | apply List.Sublist.cons))
  · exact ⟨rfl, rfl⟩
theorem len_take {l : List Bs} {B : Nat} {i : Nat} (hi : i < l.length) (h : ∀ x ∈ l.take i, x.length ≤ B) {B' : Nat} (hB : B ≤ B') (hp : (l.getD i []).length ≤ B') : ∀ x ∈ l.take (i + 1), x.length ≤ B' :=
  all_take_succ (p := fun x : Bs => x.length ≤ B') [] hi (fun x hx => Nat.le_trans (h x hx) hB) hp
theorem spec_small (w0 : World) (m : Mg) (a : Ma) (hma : MA m a) (cs : List SProp) (hm : MR w0 cs m a) :
    Spec Tryz.prog w0 5 [m.v a] cs (fun v cs' => ∃ r, v = bol r ∧ (r = true → MB m) ∧ cs' = cs) := by
  obtain ⟨hr, hk, hd⟩ := hm
  obtain ⟨f1, f2, f3, f4, f5, f6⟩ := hma
  refine Spec.of_body Tryz.func5 rfl Tryz.ntmps5 rfl ?_
  refine H.fact (fun w hw => (hr w hw).facts) fun ⟨rl1, rl2, rl3, rl4⟩ => ?_
  refine H.fact (fun w hw => (hk w hw).facts) fun ⟨ml1, ml2, ml3, ml4⟩ => ?_
  refine H.fact (fun w hw => (hd w hw).facts) fun ⟨bl1, bl2, bl3, bl4⟩ => ?_
  simp only [List.length_map] at rl1 ml1 bl1
  refine H.seq ?_
  refine H.region ?_
  refine Ops.eff (Ef.box rfl rfl) rfl ?_
  rintro _ _ ⟨b1, rfl, rfl⟩
  refine Ops.quiet (Qt.assign rfl) rfl ?_
  refine Ops.nil ?_
  refine H.then_normal ?_
  refine H.seq ?_
  refine H.region ?_
  refine Ops.quiet (Qt.fieldAddr rfl (tk rfl) rfl) rfl ?_
  refine Ops.quiet (Qt.load rfl (tk rfl) rfl (by repeat (first | exact List.Mem.head _ | apply List.Mem.tail)) (by rfl)) rfl ?_
  refine Ops.quiet (Qt.len_str rfl (tk rfl)) rfl ?_
  refine Ops.quiet (Qt.fieldAddr rfl (tk rfl) rfl) rfl ?_
  refine Ops.quiet (Qt.load rfl (tk rfl) rfl (by repeat (first | exact List.Mem.head _ | apply List.Mem.tail)) (by rfl)) rfl ?_
  refine Ops.quiet (Qt.len_sl (ats := #[]) rfl (tk rfl)) rfl ?_
  refine Ops.quiet (Qt.addk rfl rfl (by first | exact IntWalk.i64_in _ (by omega) | exact IntWalk.u8_in _ (by omega) | exact IntWalk.u64_in _ (by omega) | exact IntWalk.u32_in _ (by omega) | exact IntWalk.u16_in _ (by omega))) rfl ?_
  refine Ops.quiet (Qt.fieldAddr rfl (tk rfl) rfl) rfl ?_
  refine Ops.quiet (Qt.load rfl (tk rfl) rfl (by repeat (first | exact List.Mem.head _ | apply List.Mem.tail)) (by rfl)) rfl ?_
  refine Ops.quiet (Qt.len_sl (ats := #[]) rfl (tk rfl)) rfl ?_
  refine Ops.quiet (Qt.addk rfl rfl (by first | exact IntWalk.i64_in _ (by omega) | exact IntWalk.u8_in _ (by omega) | exact IntWalk.u64_in _ (by omega) | exact IntWalk.u32_in _ (by omega) | exact IntWalk.u16_in _ (by omega))) rfl ?_
  refine Ops.quiet (Qt.fieldAddr rfl (tk rfl) rfl) rfl ?_
  refine Ops.quiet (Qt.load rfl (tk rfl) rfl (by repeat (first | exact List.Mem.head _ | apply List.Mem.tail)) (by rfl)) rfl ?_
  refine Ops.quiet (Qt.len_sl (ats := #[]) rfl (tk rfl)) rfl ?_
  refine Ops.quiet (Qt.addk rfl rfl (by first | exact IntWalk.i64_in _ (by omega) | exact IntWalk.u8_in _ (by omega) | exact IntWalk.u64_in _ (by omega) | exact IntWalk.u32_in _ (by omega) | exact IntWalk.u16_in _ (by omega))) rfl ?_
  refine Ops.quiet (Qt.assign rfl) rfl ?_
  refine Ops.nil ?_
  refine H.then_normal ?_
  refine H.seq ?_
  refine H.seq ?_
  refine H.region ?_
  refine Ops.quiet (Qt.assign rfl) rfl ?_
  refine Ops.nil ?_
  refine H.then_normal ?_
  refine H.block ?_
  have e0 : ((m.frm.length + a.r.n + a.m.n + a.b.n : Nat) : Int) = (m.frm.length : Int) + a.r.n + a.m.n + a.b.n := by omega
  refine H.loop (X := Nat × Nat) (fun p => [(1, ptr b1), (3, num p.2), (4, num p.1)]) (fun p => blk b1 (m.cells a) 25 :: cs) (fun p => p.1 ≤ a.b.n ∧ m.frm.length + a.r.n + a.m.n + a.b.n ≤ p.2 ∧ p.2 ≤ 5000000000005000 ∧ (p.2 < 5000 → ∀ s ∈ m.body.take p.1, s.length ≤ p.2)) (fun p => a.b.n - p.1) (0, m.frm.length + a.r.n + a.m.n + a.b.n) ⟨Nat.zero_le _, Nat.le_refl _, by simp only []; omega, by simp⟩ (by show ESub [(1, ptr b1), (3, num ((m.frm.length + a.r.n + a.m.n + a.b.n : Nat) : Int)), (4, num ((0 : Nat) : Int))] _; rw [e0]; repeat (first | exact trivial | refine ⟨rfl, ?_⟩)) (fun w hw => hw) ?_
  rintro ⟨i, n⟩ ⟨hi, hn1, hn2, hn3⟩
  simp only at hi hn1 hn2 hn3
  change H _ _ [(1, ptr b1), (3, num (n : Int)), (4, num (i : Int))] (blk b1 (m.cells a) 25 :: cs) _
  refine H.seq ?_
  refine H.seq ?_
  refine H.region ?_
  refine Ops.quiet (Qt.move rfl) rfl ?_
  refine Ops.quiet (Qt.fieldAddr rfl (tk rfl) rfl) rfl ?_
  refine Ops.quiet (Qt.load rfl (tk rfl) rfl (by repeat (first | exact List.Mem.head _ | apply List.Mem.tail)) (by rfl)) rfl ?_
  refine Ops.quiet (Qt.len_sl (ats := #[]) rfl (tk rfl)) rfl ?_
  refine Ops.quiet (Qt.lss rfl rfl) rfl ?_
  refine Ops.quiet (Qt.move rfl) rfl ?_
  refine Ops.guard rfl rfl rfl rfl (fun g26 => ?_) (fun g26 => ?_)
  · have g26' := g26
    try simp only [decide_eq_true_eq, decide_eq_false_iff_not, beq_iff_eq, beq_eq_false_iff_ne, bne_iff_ne, ne_eq, Bool.not_eq_true', Bool.not_eq_false', bne_eq_false_iff_eq, Bool.not_eq_eq_eq_not, Bool.not_true, Bool.not_false] at g26'
    refine Ops.quiet (Qt.move rfl) rfl ?_
    refine Ops.guard_yes rfl rfl rfl rfl g26 ?_
    refine Ops.quiet (Qt.lss rfl rfl) rfl ?_
    refine Ops.quiet (Qt.pick_t rfl rfl g26) rfl ?_
    refine Ops.nil ?_
    refine H.then_normal ?_
    refine H.cond rfl (fun h29 => ?_) (fun h29 => ?_)
    · try simp only [decide_eq_true_eq, decide_eq_false_iff_not, beq_iff_eq, beq_eq_false_iff_ne, bne_iff_ne, ne_eq, Bool.not_eq_true', Bool.not_eq_false', bne_eq_false_iff_eq, Bool.not_eq_eq_eq_not, Bool.not_true, Bool.not_false] at h29
      refine H.skip ?_
      refine H.then_normal ?_
      refine H.seq ?_
      refine H.block ?_
      have hi2 : i < m.body.length := by omega
      have hsl := f3 _ (getD_mem [] hi2)
      have hsl' : (m.body.getD (i : Int).toNat []).length ≤ 1000000000000000 := hsl
      have hn5 : n < 5000 := by omega
      refine H.region ?_
      refine Ops.quiet (Qt.move rfl) rfl ?_
      refine Ops.quiet (Qt.fieldAddr rfl (tk rfl) rfl) rfl ?_
      refine Ops.quiet (Qt.load rfl (tk rfl) rfl (by repeat (first | exact List.Mem.head _ | apply List.Mem.tail)) (by rfl)) rfl ?_
      refine Ops.quiet (Qt.move rfl) rfl ?_
      refine Ops.quiet (Qt.indexAddr rfl rfl (tk rfl) (tk rfl) rfl (by repeat (first | assumption | exact Reads.of_head | apply Reads.tail)) (by omega) (by omega)) rfl ?_
      refine Ops.quiet (Qt.load_map ([] : List UInt8) rfl (tk rfl) rfl (by repeat (first | assumption | exact Reads.of_head | apply Reads.tail)) (by omega)) rfl ?_
      refine Ops.quiet (Qt.len_str rfl (tk rfl)) rfl ?_
      refine Ops.quiet (Qt.addk rfl rfl (by first | exact IntWalk.i64_in _ (by omega) | exact IntWalk.u8_in _ (by omega) | exact IntWalk.u64_in _ (by omega) | exact IntWalk.u32_in _ (by omega) | exact IntWalk.u16_in _ (by omega))) rfl ?_
      refine Ops.quiet (Qt.assign rfl) rfl ?_
      refine Ops.nil ?_
      refine H.blk_normal ?_
      refine H.then_normal ?_
      refine H.region ?_
      refine Ops.quiet (Qt.move rfl) rfl ?_
      refine Ops.quiet (Qt.addk rfl rfl (by first | exact IntWalk.i64_in _ (by omega) | exact IntWalk.u8_in _ (by omega) | exact IntWalk.u64_in _ (by omega) | exact IntWalk.u32_in _ (by omega) | exact IntWalk.u16_in _ (by omega))) rfl ?_
      refine Ops.quiet (Qt.assign rfl) rfl ?_
      refine Ops.nil ?_
      refine H.then_normal ?_
      have e1 : ((n + (m.body.getD i []).length : Nat) : Int) = (n : Int) + ((m.body.getD (i : Int).toNat []).length : Int) := by show _ = (n : Int) + ((m.body.getD i []).length : Int); omega
      refine H.round (i + 1, n + (m.body.getD i []).length) ⟨by show i + 1 ≤ a.b.n; omega, by simp only []; omega, by simp only []; omega, fun _ => len_take hi2 (hn3 hn5) (by simp only []; omega) (by simp only []; omega)⟩ (by simp only []; omega) (by show ESub [(1, ptr b1), (3, num ((n + (m.body.getD i []).length : Nat) : Int)), (4, num ((i + 1 : Nat) : Int))] _; rw [e1]; repeat (first | exact trivial | refine ⟨rfl, ?_⟩)) (fun w hw => hw)
    · try simp only [decide_eq_true_eq, decide_eq_false_iff_not, beq_iff_eq, beq_eq_false_iff_ne, bne_iff_ne, ne_eq, Bool.not_eq_true', Bool.not_eq_false', bne_eq_false_iff_eq, Bool.not_eq_eq_eq_not, Bool.not_true, Bool.not_false] at h29
      refine H.exit ?_
      refine H.then_exit ?_
      refine H.then_exit ?_
      refine H.blk_hit ?_
      refine H.then_normal ?_
      refine H.seq ?_
      refine H.seq ?_
      refine H.region ?_
      refine Ops.quiet (Qt.assign rfl) rfl ?_
      refine Ops.nil ?_
      refine H.then_normal ?_
      refine H.block ?_
      have hx0 : n < 5000 → ∀ s ∈ m.body, s.length ≤ n := by
        intro h
        have hi9 : i = a.b.n := by omega
        have : m.body.take i = m.body := List.take_of_length_le (by omega)
        rw [this] at hn3
        exact hn3 h
      refine H.loop (X := Nat × Nat) (fun p => [(1, ptr b1), (3, num p.2), (5, num p.1)]) (fun p => blk b1 (m.cells a) 25 :: cs) (fun p => p.1 ≤ a.r.n ∧ m.frm.length + a.r.n + a.m.n + a.b.n ≤ p.2 ∧ p.2 ≤ 5000000000005000 ∧ (p.2 < 5000 → ∀ s ∈ m.body, s.length ≤ p.2) ∧ (p.2 < 5000 → ∀ s ∈ m.rcpts.take p.1, s.length ≤ p.2)) (fun p => a.r.n - p.1) (0, n) ⟨Nat.zero_le _, hn1, hn2, hx0, by simp⟩ (by repeat (first | exact trivial | refine ⟨rfl, ?_⟩)) (fun w hw => hw) ?_
      rintro ⟨j, q⟩ ⟨hj, hq1, hq2, hq3, hq4⟩
      simp only at hj hq1 hq2 hq3 hq4
      change H _ _ [(1, ptr b1), (3, num (q : Int)), (5, num (j : Int))] (blk b1 (m.cells a) 25 :: cs) _
      refine H.seq ?_
      refine H.seq ?_
      refine H.region ?_
      refine Ops.quiet (Qt.move rfl) rfl ?_
      refine Ops.quiet (Qt.fieldAddr rfl (tk rfl) rfl) rfl ?_
      refine Ops.quiet (Qt.load rfl (tk rfl) rfl (by repeat (first | exact List.Mem.head _ | apply List.Mem.tail)) (by rfl)) rfl ?_
      refine Ops.quiet (Qt.len_sl (ats := #[]) rfl (tk rfl)) rfl ?_
      refine Ops.quiet (Qt.lss rfl rfl) rfl ?_
      refine Ops.quiet (Qt.move rfl) rfl ?_
      refine Ops.guard rfl rfl rfl rfl (fun g45 => ?_) (fun g45 => ?_)
      · have g45' := g45
        try simp only [decide_eq_true_eq, decide_eq_false_iff_not, beq_iff_eq, beq_eq_false_iff_ne, bne_iff_ne, ne_eq, Bool.not_eq_true', Bool.not_eq_false', bne_eq_false_iff_eq, Bool.not_eq_eq_eq_not, Bool.not_true, Bool.not_false] at g45'
        refine Ops.quiet (Qt.move rfl) rfl ?_
        refine Ops.guard_yes rfl rfl rfl rfl g45 ?_
        refine Ops.quiet (Qt.lss rfl rfl) rfl ?_
        refine Ops.quiet (Qt.pick_t rfl rfl g45) rfl ?_
        refine Ops.nil ?_
        refine H.then_normal ?_
        refine H.cond rfl (fun h48 => ?_) (fun h48 => ?_)
        · try simp only [decide_eq_true_eq, decide_eq_false_iff_not, beq_iff_eq, beq_eq_false_iff_ne, bne_iff_ne, ne_eq, Bool.not_eq_true', Bool.not_eq_false', bne_eq_false_iff_eq, Bool.not_eq_eq_eq_not, Bool.not_true, Bool.not_false] at h48
          refine H.skip ?_
          refine H.then_normal ?_
          refine H.seq ?_
          refine H.block ?_
          have hj2 : j < m.rcpts.length := by omega
          have hsl := f2 _ (getD_mem [] hj2)
          have hsl' : (m.rcpts.getD (j : Int).toNat []).length ≤ 1000000000000000 := hsl
          have hn5 : q < 5000 := by omega
          refine H.region ?_
          refine Ops.quiet (Qt.move rfl) rfl ?_
          refine Ops.quiet (Qt.fieldAddr rfl (tk rfl) rfl) rfl ?_
          refine Ops.quiet (Qt.load rfl (tk rfl) rfl (by repeat (first | exact List.Mem.head _ | apply List.Mem.tail)) (by rfl)) rfl ?_
          refine Ops.quiet (Qt.move rfl) rfl ?_
          refine Ops.quiet (Qt.indexAddr rfl rfl (tk rfl) (tk rfl) rfl (by repeat (first | assumption | exact Reads.of_head | apply Reads.tail)) (by omega) (by omega)) rfl ?_
          refine Ops.quiet (Qt.load_map ([] : List UInt8) rfl (tk rfl) rfl (by repeat (first | assumption | exact Reads.of_head | apply Reads.tail)) (by omega)) rfl ?_
          refine Ops.quiet (Qt.len_str rfl (tk rfl)) rfl ?_
          refine Ops.quiet (Qt.addk rfl rfl (by first | exact IntWalk.i64_in _ (by omega) | exact IntWalk.u8_in _ (by omega) | exact IntWalk.u64_in _ (by omega) | exact IntWalk.u32_in _ (by omega) | exact IntWalk.u16_in _ (by omega))) rfl ?_
          refine Ops.quiet (Qt.assign rfl) rfl ?_
          refine Ops.nil ?_
          refine H.blk_normal ?_
          refine H.then_normal ?_
          refine H.region ?_
          refine Ops.quiet (Qt.move rfl) rfl ?_
          refine Ops.quiet (Qt.addk rfl rfl (by first | exact IntWalk.i64_in _ (by omega) | exact IntWalk.u8_in _ (by omega) | exact IntWalk.u64_in _ (by omega) | exact IntWalk.u32_in _ (by omega) | exact IntWalk.u16_in _ (by omega))) rfl ?_
          refine Ops.quiet (Qt.assign rfl) rfl ?_
          refine Ops.nil ?_
          refine H.then_normal ?_
          have e1 : ((q + (m.rcpts.getD j []).length : Nat) : Int) = (q : Int) + ((m.rcpts.getD (j : Int).toNat []).length : Int) := by show _ = (q : Int) + ((m.rcpts.getD j []).length : Int); omega
          refine H.round (j + 1, q + (m.rcpts.getD j []).length) ⟨by show j + 1 ≤ a.r.n; omega, by simp only []; omega, by simp only []; omega, fun _ s hs => Nat.le_trans (hq3 hn5 s hs) (by simp only []; omega), fun _ => len_take hj2 (hq4 hn5) (by simp only []; omega) (by simp only []; omega)⟩ (by simp only []; omega) (by show ESub [(1, ptr b1), (3, num ((q + (m.rcpts.getD j []).length : Nat) : Int)), (5, num ((j + 1 : Nat) : Int))] _; rw [e1]; repeat (first | exact trivial | refine ⟨rfl, ?_⟩)) (fun w hw => hw)
        · try simp only [decide_eq_true_eq, decide_eq_false_iff_not, beq_iff_eq, beq_eq_false_iff_ne, bne_iff_ne, ne_eq, Bool.not_eq_true', Bool.not_eq_false', bne_eq_false_iff_eq, Bool.not_eq_eq_eq_not, Bool.not_true, Bool.not_false] at h48
          refine H.exit ?_
          refine H.then_exit ?_
          refine H.then_exit ?_
          refine H.blk_hit ?_
          refine H.then_normal ?_
          refine H.seq ?_
          refine H.region ?_
          refine Ops.quiet (Qt.move rfl) rfl ?_
          refine Ops.quiet (Qt.lss rfl rfl) rfl ?_
          refine Ops.quiet (Qt.assign rfl) rfl ?_
          refine Ops.nil ?_
          refine H.then_normal ?_
          refine H.ret ?_
          refine (H.ends_to (cs' := cs) rfl (.cons (.tmp rfl) .nil) (fun w hw => ?_) ?_)
          · exact hw.sub (by repeat (first | exact List.Sublist.refl _ | exact List.nil_sublist _ | apply List.Sublist.cons_cons | apply List.Sublist.cons))
          · refine ⟨_, rfl, fun h => ?_, rfl⟩
            have h5 : q < 5000 := by have := of_decide_eq_true h; omega
            have hj9 : j = a.r.n := by omega
            have ht : m.rcpts.take j = m.rcpts := List.take_of_length_le (by omega)
            rw [ht] at hq4
            exact ⟨by omega, fun s hs => by have := hq4 h5 s hs; omega, fun s hs => by have := hq3 h5 s hs; omega, by omega, by omega, by omega⟩
      · have g45' := g45
        try simp only [decide_eq_true_eq, decide_eq_false_iff_not, beq_iff_eq, beq_eq_false_iff_ne, bne_iff_ne, ne_eq, Bool.not_eq_true', Bool.not_eq_false', bne_eq_false_iff_eq, Bool.not_eq_eq_eq_not, Bool.not_true, Bool.not_false] at g45'
        refine Ops.guard_no rfl rfl rfl rfl g45 ?_
        refine Ops.quiet (Qt.pick_f rfl rfl g45) rfl ?_
        refine Ops.nil ?_
        refine H.then_normal ?_
        refine H.cond_false rfl (by rfl) ?_
        refine H.exit ?_
        refine H.then_exit ?_
        refine H.then_exit ?_
        refine H.blk_hit ?_
        refine H.then_normal ?_
        refine H.seq ?_
        refine H.region ?_
        refine Ops.quiet (Qt.move rfl) rfl ?_
        refine Ops.quiet (Qt.lss rfl rfl) rfl ?_
        refine Ops.quiet (Qt.assign rfl) rfl ?_
        refine Ops.nil ?_
        refine H.then_normal ?_
        refine H.ret ?_
        refine (H.ends_to (cs' := cs) rfl (.cons (.tmp rfl) .nil) (fun w hw => ?_) ?_)
        · exact hw.sub (by repeat (first | exact List.Sublist.refl _ | exact List.nil_sublist _ | apply List.Sublist.cons_cons | apply List.Sublist.cons))
        · refine ⟨_, rfl, fun h => ?_, rfl⟩
          have h5 : q < 5000 := by have := of_decide_eq_true h; omega
          have hj9 : j = a.r.n := by omega
          have ht : m.rcpts.take j = m.rcpts := List.take_of_length_le (by omega)
          rw [ht] at hq4
          exact ⟨by omega, fun s hs => by have := hq4 h5 s hs; omega, fun s hs => by have := hq3 h5 s hs; omega, by omega, by omega, by omega⟩
  · have g26' := g26
    try simp only [decide_eq_true_eq, decide_eq_false_iff_not, beq_iff_eq, beq_eq_false_iff_ne, bne_iff_ne, ne_eq, Bool.not_eq_true', Bool.not_eq_false', bne_eq_false_iff_eq, Bool.not_eq_eq_eq_not, Bool.not_true, Bool.not_false] at g26'
    refine Ops.guard_no rfl rfl rfl rfl g26 ?_
    refine Ops.quiet (Qt.pick_f rfl rfl g26) rfl ?_
    refine Ops.nil ?_
    refine H.then_normal ?_
    refine H.cond_false rfl (by rfl) ?_
    refine H.exit ?_
    refine H.then_exit ?_
    refine H.then_exit ?_
    refine H.blk_hit ?_
    refine H.then_normal ?_
    refine H.seq ?_
    refine H.seq ?_
    refine H.region ?_
    refine Ops.quiet (Qt.assign rfl) rfl ?_
    refine Ops.nil ?_
    refine H.then_normal ?_
    refine H.block ?_
    have hx0 : n < 5000 → ∀ s ∈ m.body, s.length ≤ n := by
      intro h
      have hi9 : i = a.b.n := by omega
      have : m.body.take i = m.body := List.take_of_length_le (by omega)
      rw [this] at hn3
      exact hn3 h
    refine H.loop (X := Nat × Nat) (fun p => [(1, ptr b1), (3, num p.2), (5, num p.1)]) (fun p => blk b1 (m.cells a) 25 :: cs) (fun p => p.1 ≤ a.r.n ∧ m.frm.length + a.r.n + a.m.n + a.b.n ≤ p.2 ∧ p.2 ≤ 5000000000005000 ∧ (p.2 < 5000 → ∀ s ∈ m.body, s.length ≤ p.2) ∧ (p.2 < 5000 → ∀ s ∈ m.rcpts.take p.1, s.length ≤ p.2)) (fun p => a.r.n - p.1) (0, n) ⟨Nat.zero_le _, hn1, hn2, hx0, by simp⟩ (by repeat (first | exact trivial | refine ⟨rfl, ?_⟩)) (fun w hw => hw) ?_
    rintro ⟨j, q⟩ ⟨hj, hq1, hq2, hq3, hq4⟩
    simp only at hj hq1 hq2 hq3 hq4
    change H _ _ [(1, ptr b1), (3, num (q : Int)), (5, num (j : Int))] (blk b1 (m.cells a) 25 :: cs) _
    refine H.seq ?_
    refine H.seq ?_
    refine H.region ?_
    refine Ops.quiet (Qt.move rfl) rfl ?_
    refine Ops.quiet (Qt.fieldAddr rfl (tk rfl) rfl) rfl ?_
    refine Ops.quiet (Qt.load rfl (tk rfl) rfl (by repeat (first | exact List.Mem.head _ | apply List.Mem.tail)) (by rfl)) rfl ?_
    refine Ops.quiet (Qt.len_sl (ats := #[]) rfl (tk rfl)) rfl ?_
    refine Ops.quiet (Qt.lss rfl rfl) rfl ?_
    refine Ops.quiet (Qt.move rfl) rfl ?_
    refine Ops.guard rfl rfl rfl rfl (fun g45 => ?_) (fun g45 => ?_)
    · have g45' := g45
      try simp only [decide_eq_true_eq, decide_eq_false_iff_not, beq_iff_eq, beq_eq_false_iff_ne, bne_iff_ne, ne_eq, Bool.not_eq_true', Bool.not_eq_false', bne_eq_false_iff_eq, Bool.not_eq_eq_eq_not, Bool.not_true, Bool.not_false] at g45'
      refine Ops.quiet (Qt.move rfl) rfl ?_
      refine Ops.guard_yes rfl rfl rfl rfl g45 ?_
      refine Ops.quiet (Qt.lss rfl rfl) rfl ?_
      refine Ops.quiet (Qt.pick_t rfl rfl g45) rfl ?_
      refine Ops.nil ?_
      refine H.then_normal ?_
      refine H.cond rfl (fun h48 => ?_) (fun h48 => ?_)
      · try simp only [decide_eq_true_eq, decide_eq_false_iff_not, beq_iff_eq, beq_eq_false_iff_ne, bne_iff_ne, ne_eq, Bool.not_eq_true', Bool.not_eq_false', bne_eq_false_iff_eq, Bool.not_eq_eq_eq_not, Bool.not_true, Bool.not_false] at h48
        refine H.skip ?_
        refine H.then_normal ?_
        refine H.seq ?_
        refine H.block ?_
        have hj2 : j < m.rcpts.length := by omega
        have hsl := f2 _ (getD_mem [] hj2)
        have hsl' : (m.rcpts.getD (j : Int).toNat []).length ≤ 1000000000000000 := hsl
        have hn5 : q < 5000 := by omega
        refine H.region ?_
        refine Ops.quiet (Qt.move rfl) rfl ?_
        refine Ops.quiet (Qt.fieldAddr rfl (tk rfl) rfl) rfl ?_
        refine Ops.quiet (Qt.load rfl (tk rfl) rfl (by repeat (first | exact List.Mem.head _ | apply List.Mem.tail)) (by rfl)) rfl ?_
        refine Ops.quiet (Qt.move rfl) rfl ?_
        refine Ops.quiet (Qt.indexAddr rfl rfl (tk rfl) (tk rfl) rfl (by repeat (first | assumption | exact Reads.of_head | apply Reads.tail)) (by omega) (by omega)) rfl ?_
        refine Ops.quiet (Qt.load_map ([] : List UInt8) rfl (tk rfl) rfl (by repeat (first | assumption | exact Reads.of_head | apply Reads.tail)) (by omega)) rfl ?_
        refine Ops.quiet (Qt.len_str rfl (tk rfl)) rfl ?_
        refine Ops.quiet (Qt.addk rfl rfl (by first | exact IntWalk.i64_in _ (by omega) | exact IntWalk.u8_in _ (by omega) | exact IntWalk.u64_in _ (by omega) | exact IntWalk.u32_in _ (by omega) | exact IntWalk.u16_in _ (by omega))) rfl ?_
        refine Ops.quiet (Qt.assign rfl) rfl ?_
        refine Ops.nil ?_
        refine H.blk_normal ?_
        refine H.then_normal ?_
        refine H.region ?_
        refine Ops.quiet (Qt.move rfl) rfl ?_
        refine Ops.quiet (Qt.addk rfl rfl (by first | exact IntWalk.i64_in _ (by omega) | exact IntWalk.u8_in _ (by omega) | exact IntWalk.u64_in _ (by omega) | exact IntWalk.u32_in _ (by omega) | exact IntWalk.u16_in _ (by omega))) rfl ?_
        refine Ops.quiet (Qt.assign rfl) rfl ?_
        refine Ops.nil ?_
        refine H.then_normal ?_
        have e1 : ((q + (m.rcpts.getD j []).length : Nat) : Int) = (q : Int) + ((m.rcpts.getD (j : Int).toNat []).length : Int) := by show _ = (q : Int) + ((m.rcpts.getD j []).length : Int); omega
        refine H.round (j + 1, q + (m.rcpts.getD j []).length) ⟨by show j + 1 ≤ a.r.n; omega, by simp only []; omega, by simp only []; omega, fun _ s hs => Nat.le_trans (hq3 hn5 s hs) (by simp only []; omega), fun _ => len_take hj2 (hq4 hn5) (by simp only []; omega) (by simp only []; omega)⟩ (by simp only []; omega) (by show ESub [(1, ptr b1), (3, num ((q + (m.rcpts.getD j []).length : Nat) : Int)), (5, num ((j + 1 : Nat) : Int))] _; rw [e1]; repeat (first | exact trivial | refine ⟨rfl, ?_⟩)) (fun w hw => hw)
      · try simp only [decide_eq_true_eq, decide_eq_false_iff_not, beq_iff_eq, beq_eq_false_iff_ne, bne_iff_ne, ne_eq, Bool.not_eq_true', Bool.not_eq_false', bne_eq_false_iff_eq, Bool.not_eq_eq_eq_not, Bool.not_true, Bool.not_false] at h48
        refine H.exit ?_
        refine H.then_exit ?_
        refine H.then_exit ?_
        refine H.blk_hit ?_
        refine H.then_normal ?_
        refine H.seq ?_
        refine H.region ?_
        refine Ops.quiet (Qt.move rfl) rfl ?_
        refine Ops.quiet (Qt.lss rfl rfl) rfl ?_
        refine Ops.quiet (Qt.assign rfl) rfl ?_
        refine Ops.nil ?_
        refine H.then_normal ?_
        refine H.ret ?_
        refine (H.ends_to (cs' := cs) rfl (.cons (.tmp rfl) .nil) (fun w hw => ?_) ?_)
        · exact hw.sub (by repeat (first | exact List.Sublist.refl _ | exact List.nil_sublist _ | apply List.Sublist.cons_cons | apply List.Sublist.cons))
        · refine ⟨_, rfl, fun h => ?_, rfl⟩
          have h5 : q < 5000 := by have := of_decide_eq_true h; omega
          have hj9 : j = a.r.n := by omega
          have ht : m.rcpts.take j = m.rcpts := List.take_of_length_le (by omega)
          rw [ht] at hq4
          exact ⟨by omega, fun s hs => by have := hq4 h5 s hs; omega, fun s hs => by have := hq3 h5 s hs; omega, by omega, by omega, by omega⟩
    · have g45' := g45
      try simp only [decide_eq_true_eq, decide_eq_false_iff_not, beq_iff_eq, beq_eq_false_iff_ne, bne_iff_ne, ne_eq, Bool.not_eq_true', Bool.not_eq_false', bne_eq_false_iff_eq, Bool.not_eq_eq_eq_not, Bool.not_true, Bool.not_false] at g45'
      refine Ops.guard_no rfl rfl rfl rfl g45 ?_
      refine Ops.quiet (Qt.pick_f rfl rfl g45) rfl ?_
      refine Ops.nil ?_
      refine H.then_normal ?_
      refine H.cond_false rfl (by rfl) ?_
      refine H.exit ?_
      refine H.then_exit ?_
      refine H.then_exit ?_
      refine H.blk_hit ?_
      refine H.then_normal ?_
      refine H.seq ?_
      refine H.region ?_
      refine Ops.quiet (Qt.move rfl) rfl ?_
      refine Ops.quiet (Qt.lss rfl rfl) rfl ?_
      refine Ops.quiet (Qt.assign rfl) rfl ?_
      refine Ops.nil ?_
      refine H.then_normal ?_
      refine H.ret ?_
      refine (H.ends_to (cs' := cs) rfl (.cons (.tmp rfl) .nil) (fun w hw => ?_) ?_)
      · exact hw.sub (by repeat (first | exact List.Sublist.refl _ | exact List.nil_sublist _ | apply List.Sublist.cons_cons | apply List.Sublist.cons))
      · refine ⟨_, rfl, fun h => ?_, rfl⟩
        have h5 : q < 5000 := by have := of_decide_eq_true h; omega
        have hj9 : j = a.r.n := by omega
        have ht : m.rcpts.take j = m.rcpts := List.take_of_length_le (by omega)
        rw [ht] at hq4
        exact ⟨by omega, fun s hs => by have := hq4 h5 s hs; omega, fun s hs => by have := hq3 h5 s hs; omega, by omega, by omega, by omega⟩
theorem tri (m : Mg) (f : Int) : (¬ (f = 1 ∨ f = 2)) ∨ ((f = 1 ∨ f = 2) ∧ goodM m = false) ∨ ((f = 1 ∨ f = 2) ∧ GoodM m) := by
  by_cases h : f = 1 ∨ f = 2
  · cases hg : goodM m with
    | false => exact .inr (.inl ⟨h, rfl⟩)
    | true => exact .inr (.inr ⟨h, goodM_iff.1 hg⟩)
  · exact .inl h
theorem textM_len {m : Mg} (hb : MB m) (hg : GoodM m) : (textM m).length ≤ 30000000 := by
  obtain ⟨t1, t2, t3, t4⟩ := hg.tb hb
  simp only [textM, List.length_append, lineB_len, List.length_cons, List.length_nil]
  omega
theorem sniff_f (w0 : World) (m : Mg) {f : Int} (hf : f = 1 ∨ f = 2) {A : Option Addr} {n c : Nat} (cs : List SProp) (hr : Reads w0 cs A n c ((encM m f).map u8v)) :
    Spec Tryz.prog w0 12 [.slice A n c] cs (fun v cs' => v = num f ∧ cs' = cs) := by
  have := spec_sniff w0 (encM m f) cs hr
  rwa [sniff_enc m hf] at this
theorem same_text {w0 : World} {m : Mg} {o : Int} (ho : o = 1) {A B : Option Addr} {n c k q : Nat} (cs : List SProp) (hx : Reads w0 cs A n c ((encM m o).map u8v)) (hy : Reads w0 cs B k q ((textM m).map u8v)) :
    Spec Tryz.prog w0 15 [.slice A n c, .slice B k q] cs (fun v cs' => v = bol true ∧ cs' = cs) := by
  have := spec_rsame w0 (encM m o) (textM m) cs hx hy
  have e : (encM m o == textM m) = true := by subst ho; exact beq_self_eq_true _
  rwa [e] at this
theorem same_bytes {w0 : World} {m : Mg} {o : Int} (ho : o = 2) {A B : Option Addr} {n c k q : Nat} (cs : List SProp) (hx : Reads w0 cs A n c ((encM m o).map u8v)) (hy : Reads w0 cs B k q ((bytesM m).map u8v)) :
    Spec Tryz.prog w0 15 [.slice A n c, .slice B k q] cs (fun v cs' => v = bol true ∧ cs' = cs) := by
  have := spec_rsame w0 (encM m o) (bytesM m) cs hx hy
  have e : (encM m o == bytesM m) = true := by subst ho; exact beq_self_eq_true _
  rwa [e] at this
theorem same_self {w0 : World} {x : Bs} {A B : Option Addr} {n c k q : Nat} (cs : List SProp) (hx : Reads w0 cs A n c (x.map u8v)) (hy : Reads w0 cs B k q (x.map u8v)) :
    Spec Tryz.prog w0 15 [.slice A n c, .slice B k q] cs (fun v cs' => v = bol true ∧ cs' = cs) := by
  have := spec_rsame w0 x x cs hx hy
  rwa [beq_self_eq_true] at this
set_option maxHeartbeats 2000000 in
theorem spec_both (w0 : World) (hG : Gp w0) (m : Mg) (a : Ma) (hma : MA m a) (f o : Int) (cs : List SProp) (hm : MR w0 cs m a) :
    Spec Tryz.prog w0 3 [m.v a, num f, num o] cs (fun v _ => v = bol true) := by
  refine Spec.of_body Tryz.func3 rfl Tryz.ntmps3 rfl ?_
  refine H.seq ?_
  refine H.region ?_
  refine Ops.eff (Ef.box rfl rfl) rfl ?_
  rintro _ _ ⟨b3, rfl, rfl⟩
  refine Ops.quiet (Qt.assign rfl) rfl ?_
  refine Ops.nil ?_
  refine H.then_normal ?_
  refine H.seq ?_
  refine H.seq ?_
  refine H.region ?_
  refine Ops.quiet (Qt.load_agg rfl (tk rfl) rfl (by repeat (first | exact List.Mem.head _ | apply List.Mem.tail)) (by rfl) (by rfl)) rfl ?_
  refine Ops.eff (Ef.call (fok fab_all rfl Tryz.func5 rfl) rfl (spec_small w0 m a hma _ hm.tail)) rfl ?_
  rintro _ _ ⟨r, rfl, hr, rfl⟩
  refine Ops.quiet (Qt.not rfl) rfl ?_
  refine Ops.nil ?_
  refine H.then_normal ?_
  refine H.cond rfl (fun h18 => ?_) (fun h18 => ?_)
  · try simp only [decide_eq_true_eq, decide_eq_false_iff_not, beq_iff_eq, beq_eq_false_iff_ne, bne_iff_ne, ne_eq, Bool.not_eq_true', Bool.not_eq_false', bne_eq_false_iff_eq, Bool.not_eq_eq_eq_not, Bool.not_true, Bool.not_false] at h18
    refine H.seq ?_
    refine H.region ?_
    refine Ops.eff (Ef.call (fok fab_all rfl Tryz.func6 rfl) rfl (spec_tanswers w0 hG _)) rfl ?_
    rintro _ c0 ⟨rfl, h0⟩; subst c0
    refine Ops.quiet (Qt.assign rfl) rfl ?_
    refine Ops.nil ?_
    refine H.then_normal ?_
    refine H.ret ?_
    refine H.then_ret ?_
    refine (H.ends rfl (.cons (.tmp rfl) .nil) ?_)
    rfl
  · try simp only [decide_eq_true_eq, decide_eq_false_iff_not, beq_iff_eq, beq_eq_false_iff_ne, bne_iff_ne, ne_eq, Bool.not_eq_true', Bool.not_eq_false', bne_eq_false_iff_eq, Bool.not_eq_eq_eq_not, Bool.not_true, Bool.not_false] at h18
    refine H.skip ?_
    refine H.then_normal ?_
    refine H.seq ?_
    have hb : MB m := hr (by simpa using h18)
    have hgr := fun cs (h : MR w0 cs m a) => spec_rgoodM w0 m a hb cs h
    rcases tri m f with hf | ⟨hf, hg⟩ | ⟨hf, hg⟩
    · refine H.region ?_
      refine Ops.quiet (Qt.load_agg rfl (tk rfl) rfl (by repeat (first | exact List.Mem.head _ | apply List.Mem.tail)) (by rfl) (by rfl)) rfl ?_
      refine Ops.quiet (Qt.move rfl) rfl ?_
      refine Ops.eff (Ef.call (fok fab_all rfl Tryz.func7 rfl) rfl (spec_tencode_arg w0 m a hf _)) rfl ?_
      rintro _ c0 ⟨rfl, h0⟩; subst c0
      refine Ops.quiet (Qt.move rfl) rfl ?_
      refine Ops.quiet (Qt.extract rfl rfl) rfl ?_
      refine Ops.quiet (Qt.extract rfl rfl) rfl ?_
      refine Ops.quiet (Qt.assign rfl) rfl ?_
      refine Ops.quiet (Qt.assign rfl) rfl ?_
      refine Ops.nil ?_
      refine H.then_normal ?_
      refine H.seq ?_
      refine H.seq ?_
      refine H.region ?_
      refine Ops.quiet (Qt.move rfl) rfl ?_
      refine Ops.quiet (Qt.neq rfl rfl) rfl ?_
      refine Ops.quiet (Qt.move rfl) rfl ?_
      refine Ops.guard rfl rfl rfl rfl (fun g28 => ?_) (fun g28 => ?_)
      · have g28' := g28
        try simp only [decide_eq_true_eq, decide_eq_false_iff_not, beq_iff_eq, beq_eq_false_iff_ne, bne_iff_ne, ne_eq, Bool.not_eq_true', Bool.not_eq_false', bne_eq_false_iff_eq, Bool.not_eq_eq_eq_not, Bool.not_true, Bool.not_false] at g28'
        refine Ops.quiet (Qt.move rfl) rfl ?_
        refine Ops.guard_yes rfl rfl rfl rfl g28 ?_
        refine Ops.quiet (Qt.neq rfl rfl) rfl ?_
        refine Ops.quiet (Qt.pick_t rfl rfl g28) rfl ?_
        refine Ops.nil ?_
        refine H.then_normal ?_
        refine H.cond_true rfl (by exact bne_iff_ne.2 (by omega)) ?_
        refine H.seq ?_
        refine H.region ?_
        refine Ops.eff (Ef.call (fok fab_all rfl Tryz.func6 rfl) rfl (spec_tanswers w0 hG _)) rfl ?_
        rintro _ c0 ⟨rfl, h0⟩; subst c0
        refine Ops.quiet (Qt.move rfl) rfl ?_
        refine Ops.guard_yes rfl rfl rfl rfl rfl ?_
        refine Ops.quiet (Qt.move rfl) rfl ?_
        refine Ops.guard_yes rfl rfl rfl rfl rfl ?_
        refine Ops.quiet (Qt.eql rfl rfl) rfl ?_
        refine Ops.quiet (Qt.pick_t rfl rfl rfl) rfl ?_
        refine Ops.quiet (Qt.move rfl) rfl ?_
        refine Ops.guard_yes rfl rfl rfl rfl rfl ?_
        refine Ops.quiet (Qt.move rfl) rfl ?_
        refine Ops.guard_yes rfl rfl rfl rfl rfl ?_
        refine Ops.quiet (Qt.len_sl (ats := #[]) rfl (tk rfl)) rfl ?_
        refine Ops.guard_yes rfl rfl rfl rfl rfl ?_
        refine Ops.quiet (Qt.eql rfl rfl) rfl ?_
        refine Ops.quiet (Qt.pick_t rfl rfl rfl) rfl ?_
        refine Ops.quiet (Qt.assign rfl) rfl ?_
        refine Ops.nil ?_
        refine H.then_normal ?_
        refine H.ret ?_
        refine H.then_ret ?_
        refine (H.ends rfl (.cons (.tmp rfl) .nil) ?_)
        rfl
      · have g28' := g28
        try simp only [decide_eq_true_eq, decide_eq_false_iff_not, beq_iff_eq, beq_eq_false_iff_ne, bne_iff_ne, ne_eq, Bool.not_eq_true', Bool.not_eq_false', bne_eq_false_iff_eq, Bool.not_eq_eq_eq_not, Bool.not_true, Bool.not_false] at g28'
        exact absurd hf (by omega)
    · refine H.region ?_
      refine Ops.quiet (Qt.load_agg rfl (tk rfl) rfl (by repeat (first | exact List.Mem.head _ | apply List.Mem.tail)) (by rfl) (by rfl)) rfl ?_
      refine Ops.quiet (Qt.move rfl) rfl ?_
      refine Ops.eff (Ef.call (fok fab_all rfl Tryz.func7 rfl) rfl (spec_tencode_bad w0 hG m a hb hg hf _ hm.tail)) rfl ?_
      rintro _ c0 ⟨rfl, h0⟩; subst c0
      refine Ops.quiet (Qt.move rfl) rfl ?_
      refine Ops.quiet (Qt.extract rfl rfl) rfl ?_
      refine Ops.quiet (Qt.extract rfl rfl) rfl ?_
      refine Ops.quiet (Qt.assign rfl) rfl ?_
      refine Ops.quiet (Qt.assign rfl) rfl ?_
      refine Ops.nil ?_
      refine H.then_normal ?_
      refine H.seq ?_
      refine H.seq ?_
      refine H.region ?_
      refine Ops.quiet (Qt.move rfl) rfl ?_
      refine Ops.quiet (Qt.neq rfl rfl) rfl ?_
      refine Ops.quiet (Qt.move rfl) rfl ?_
      refine Ops.guard rfl rfl rfl rfl (fun g28 => ?_) (fun g28 => ?_)
      · have g28' := g28
        try simp only [decide_eq_true_eq, decide_eq_false_iff_not, beq_iff_eq, beq_eq_false_iff_ne, bne_iff_ne, ne_eq, Bool.not_eq_true', Bool.not_eq_false', bne_eq_false_iff_eq, Bool.not_eq_eq_eq_not, Bool.not_true, Bool.not_false] at g28'
        refine Ops.quiet (Qt.move rfl) rfl ?_
        refine Ops.guard_yes rfl rfl rfl rfl g28 ?_
        refine Ops.quiet (Qt.neq rfl rfl) rfl ?_
        refine Ops.quiet (Qt.pick_t rfl rfl g28) rfl ?_
        refine Ops.nil ?_
        refine H.then_normal ?_
        refine H.cond_false rfl (by exact bne_eq_false_iff_eq.2 (by omega)) ?_
        refine H.skip ?_
        refine H.then_normal ?_
        refine H.seq ?_
        refine H.seq ?_
        refine H.region ?_
        refine Ops.quiet (Qt.load_agg rfl (tk rfl) rfl (by repeat (first | exact List.Mem.head _ | apply List.Mem.tail)) (by rfl) (by rfl)) rfl ?_
        refine Ops.eff (Ef.call (fok fab_all rfl Tryz.func8 rfl) rfl (hgr _ (by first | exact hm.tail | exact hm.tail.tail | exact hm.tail.tail.tail))) rfl ?_
        rintro _ c0 ⟨rfl, h0⟩; subst c0
        refine Ops.quiet (Qt.not rfl) rfl ?_
        refine Ops.nil ?_
        refine H.then_normal ?_
        refine H.cond_true rfl (by rw [hg]; rfl) ?_
        refine H.seq ?_
        refine H.region ?_
        refine Ops.eff (Ef.call (fok fab_all rfl Tryz.func6 rfl) rfl (spec_tanswers w0 hG _)) rfl ?_
        rintro _ c0 ⟨rfl, h0⟩; subst c0
        refine Ops.quiet (Qt.move rfl) rfl ?_
        refine Ops.guard_yes rfl rfl rfl rfl rfl ?_
        refine Ops.quiet (Qt.move rfl) rfl ?_
        refine Ops.guard_yes rfl rfl rfl rfl rfl ?_
        refine Ops.quiet (Qt.eql rfl rfl) rfl ?_
        refine Ops.quiet (Qt.pick_t rfl rfl rfl) rfl ?_
        refine Ops.quiet (Qt.move rfl) rfl ?_
        refine Ops.guard_yes rfl rfl rfl rfl rfl ?_
        refine Ops.quiet (Qt.move rfl) rfl ?_
        refine Ops.guard_yes rfl rfl rfl rfl rfl ?_
        refine Ops.quiet (Qt.len_sl (ats := #[]) rfl (tk rfl)) rfl ?_
        refine Ops.guard_yes rfl rfl rfl rfl rfl ?_
        refine Ops.quiet (Qt.eql rfl rfl) rfl ?_
        refine Ops.quiet (Qt.pick_t rfl rfl rfl) rfl ?_
        refine Ops.quiet (Qt.assign rfl) rfl ?_
        refine Ops.nil ?_
        refine H.then_normal ?_
        refine H.ret ?_
        refine H.then_ret ?_
        refine (H.ends rfl (.cons (.tmp rfl) .nil) ?_)
        rfl
      · have g28' := g28
        try simp only [decide_eq_true_eq, decide_eq_false_iff_not, beq_iff_eq, beq_eq_false_iff_ne, bne_iff_ne, ne_eq, Bool.not_eq_true', Bool.not_eq_false', bne_eq_false_iff_eq, Bool.not_eq_eq_eq_not, Bool.not_true, Bool.not_false] at g28'
        refine Ops.guard_no rfl rfl rfl rfl g28 ?_
        refine Ops.quiet (Qt.pick_f rfl rfl g28) rfl ?_
        refine Ops.nil ?_
        refine H.then_normal ?_
        refine H.cond_false rfl (by rfl) ?_
        refine H.skip ?_
        refine H.then_normal ?_
        refine H.seq ?_
        refine H.seq ?_
        refine H.region ?_
        refine Ops.quiet (Qt.load_agg rfl (tk rfl) rfl (by repeat (first | exact List.Mem.head _ | apply List.Mem.tail)) (by rfl) (by rfl)) rfl ?_
        refine Ops.eff (Ef.call (fok fab_all rfl Tryz.func8 rfl) rfl (hgr _ (by first | exact hm.tail | exact hm.tail.tail | exact hm.tail.tail.tail))) rfl ?_
        rintro _ c0 ⟨rfl, h0⟩; subst c0
        refine Ops.quiet (Qt.not rfl) rfl ?_
        refine Ops.nil ?_
        refine H.then_normal ?_
        refine H.cond_true rfl (by rw [hg]; rfl) ?_
        refine H.seq ?_
        refine H.region ?_
        refine Ops.eff (Ef.call (fok fab_all rfl Tryz.func6 rfl) rfl (spec_tanswers w0 hG _)) rfl ?_
        rintro _ c0 ⟨rfl, h0⟩; subst c0
        refine Ops.quiet (Qt.move rfl) rfl ?_
        refine Ops.guard_yes rfl rfl rfl rfl rfl ?_
        refine Ops.quiet (Qt.move rfl) rfl ?_
        refine Ops.guard_yes rfl rfl rfl rfl rfl ?_
        refine Ops.quiet (Qt.eql rfl rfl) rfl ?_
        refine Ops.quiet (Qt.pick_t rfl rfl rfl) rfl ?_
        refine Ops.quiet (Qt.move rfl) rfl ?_
        refine Ops.guard_yes rfl rfl rfl rfl rfl ?_
        refine Ops.quiet (Qt.move rfl) rfl ?_
        refine Ops.guard_yes rfl rfl rfl rfl rfl ?_
        refine Ops.quiet (Qt.len_sl (ats := #[]) rfl (tk rfl)) rfl ?_
        refine Ops.guard_yes rfl rfl rfl rfl rfl ?_
        refine Ops.quiet (Qt.eql rfl rfl) rfl ?_
        refine Ops.quiet (Qt.pick_t rfl rfl rfl) rfl ?_
        refine Ops.quiet (Qt.assign rfl) rfl ?_
        refine Ops.nil ?_
        refine H.then_normal ?_
        refine H.ret ?_
        refine H.then_ret ?_
        refine (H.ends rfl (.cons (.tmp rfl) .nil) ?_)
        rfl
    · refine H.region ?_
      refine Ops.quiet (Qt.load_agg rfl (tk rfl) rfl (by repeat (first | exact List.Mem.head _ | apply List.Mem.tail)) (by rfl) (by rfl)) rfl ?_
      refine Ops.quiet (Qt.move rfl) rfl ?_
      refine Ops.eff (Ef.call (fok fab_all rfl Tryz.func7 rfl) rfl (spec_tencode w0 hG m a hb hg hf _ hm.tail)) rfl ?_
      rintro _ _ ⟨A1, c1, rfl, rfl⟩
      refine Ops.quiet (Qt.move rfl) rfl ?_
      refine Ops.quiet (Qt.extract rfl rfl) rfl ?_
      refine Ops.quiet (Qt.extract rfl rfl) rfl ?_
      refine Ops.quiet (Qt.assign rfl) rfl ?_
      refine Ops.quiet (Qt.assign rfl) rfl ?_
      refine Ops.nil ?_
      refine H.then_normal ?_
      refine H.seq ?_
      refine H.seq ?_
      refine H.region ?_
      refine Ops.quiet (Qt.move rfl) rfl ?_
      refine Ops.quiet (Qt.neq rfl rfl) rfl ?_
      refine Ops.quiet (Qt.move rfl) rfl ?_
      refine Ops.guard rfl rfl rfl rfl (fun g28 => ?_) (fun g28 => ?_)
      · have g28' := g28
        try simp only [decide_eq_true_eq, decide_eq_false_iff_not, beq_iff_eq, beq_eq_false_iff_ne, bne_iff_ne, ne_eq, Bool.not_eq_true', Bool.not_eq_false', bne_eq_false_iff_eq, Bool.not_eq_eq_eq_not, Bool.not_true, Bool.not_false] at g28'
        refine Ops.quiet (Qt.move rfl) rfl ?_
        refine Ops.guard_yes rfl rfl rfl rfl g28 ?_
        refine Ops.quiet (Qt.neq rfl rfl) rfl ?_
        refine Ops.quiet (Qt.pick_t rfl rfl g28) rfl ?_
        refine Ops.nil ?_
        refine H.then_normal ?_
        refine H.cond_false rfl (by exact bne_eq_false_iff_eq.2 (by omega)) ?_
        refine H.skip ?_
        refine H.then_normal ?_
        refine H.seq ?_
        refine H.seq ?_
        refine H.region ?_
        refine Ops.quiet (Qt.load_agg rfl (tk rfl) rfl (by repeat (first | exact List.Mem.head _ | apply List.Mem.tail)) (by rfl) (by rfl)) rfl ?_
        refine Ops.eff (Ef.call (fok fab_all rfl Tryz.func8 rfl) rfl (hgr _ (by first | exact hm.tail | exact hm.tail.tail | exact hm.tail.tail.tail))) rfl ?_
        rintro _ c0 ⟨rfl, h0⟩; subst c0
        refine Ops.quiet (Qt.not rfl) rfl ?_
        refine Ops.nil ?_
        refine H.then_normal ?_
        refine H.cond_false rfl (by rw [goodM_iff.2 hg]; rfl) ?_
        refine H.skip ?_
        refine H.then_normal ?_
        refine H.seq ?_
        refine H.region ?_
        refine Ops.quiet (Qt.move rfl) rfl ?_
        refine Ops.eff (Ef.call (fok fab_all rfl Tryz.func9 rfl) rfl (spec_tdecode w0 hG m hb hg hf _ (osl_reads (.head _)))) rfl ?_
        rintro _ _ ⟨a', rfl, rfl⟩
        refine Ops.quiet (Qt.move rfl) rfl ?_
        refine Ops.quiet (Qt.extract rfl rfl) rfl ?_
        refine Ops.quiet (Qt.extract rfl rfl) rfl ?_
        refine Ops.eff (Ef.alloc (zk rfl)) rfl ?_
        rintro _ _ ⟨b9, rfl, rfl⟩
        refine Ops.eff (Ef.store rfl rfl (tk rfl) rfl rfl (by repeat (first | exact ones_nil | refine ones_cons rfl ?_)) (by repeat (first | exact Upd.head | apply Upd.tail)) (by rfl)) rfl ?_
        rintro _ _ rfl
        refine Ops.quiet (Qt.assign rfl) rfl ?_
        refine Ops.nil ?_
        refine H.then_normal ?_
        refine H.seq ?_
        rcases Classical.em (o = 1 ∨ o = 2) with ho | ho
        · refine H.region ?_
          refine Ops.quiet (Qt.move rfl) rfl ?_
          refine Ops.quiet (Qt.move rfl) rfl ?_
          refine Ops.eff (Ef.call (fok fab_all rfl Tryz.func10 rfl) rfl (spec_turn w0 hG m hb hg hf ho _ (osl_reads (by repeat (first | exact List.Mem.head _ | apply List.Mem.tail))))) rfl ?_
          rintro _ _ ⟨A2, c2, rfl, rfl⟩
          refine Ops.quiet (Qt.move rfl) rfl ?_
          refine Ops.quiet (Qt.extract rfl rfl) rfl ?_
          refine Ops.quiet (Qt.extract rfl rfl) rfl ?_
          refine Ops.quiet (Qt.assign rfl) rfl ?_
          refine Ops.quiet (Qt.assign rfl) rfl ?_
          refine Ops.nil ?_
          refine H.then_normal ?_
          refine H.seq ?_
          refine H.seq ?_
          refine H.region ?_
          refine Ops.quiet (Qt.move rfl) rfl ?_
          refine Ops.quiet (Qt.neq rfl rfl) rfl ?_
          refine Ops.quiet (Qt.move rfl) rfl ?_
          refine Ops.guard_yes rfl rfl rfl rfl rfl ?_
          refine Ops.quiet (Qt.move rfl) rfl ?_
          refine Ops.guard_yes rfl rfl rfl rfl rfl ?_
          refine Ops.quiet (Qt.neq rfl rfl) rfl ?_
          refine Ops.quiet (Qt.pick_f rfl rfl rfl) rfl ?_
          refine Ops.quiet (Qt.move rfl) rfl ?_
          refine Ops.guard_yes rfl rfl rfl rfl rfl ?_
          refine Ops.quiet (Qt.load_agg rfl (tk rfl) rfl (by repeat (first | exact List.Mem.head _ | apply List.Mem.tail)) (by rfl) (by rfl)) rfl ?_
          refine Ops.guard_yes rfl rfl rfl rfl rfl ?_
          refine Ops.quiet (Qt.load_agg rfl (tk rfl) rfl (by repeat (first | exact List.Mem.head _ | apply List.Mem.tail)) (by rfl) (by rfl)) rfl ?_
          refine Ops.guard_yes rfl rfl rfl rfl rfl ?_
          refine Ops.eff (Ef.call (fok fab_all rfl Tryz.func11 rfl) rfl (spec_same w0 m a' a _ ⟨osl_reads (by repeat (first | exact List.Mem.head _ | apply List.Mem.tail)), osl_reads (by repeat (first | exact List.Mem.head _ | apply List.Mem.tail)), osl_reads (by repeat (first | exact List.Mem.head _ | apply List.Mem.tail))⟩ (by first | exact hm.tail | exact hm.tail.tail | exact hm.tail.tail.tail | exact hm.tail.tail.tail.tail | exact hm.tail.tail.tail.tail.tail | exact hm.tail.tail.tail.tail.tail.tail | exact hm.tail.tail.tail.tail.tail.tail.tail | exact hm.tail.tail.tail.tail.tail.tail.tail.tail))) rfl ?_
          rintro _ c0 ⟨rfl, h0⟩; subst c0
          refine Ops.guard_yes rfl rfl rfl rfl rfl ?_
          refine Ops.quiet (Qt.not rfl) rfl ?_
          refine Ops.quiet (Qt.pick_f rfl rfl rfl) rfl ?_
          refine Ops.quiet (Qt.move rfl) rfl ?_
          refine Ops.guard_yes rfl rfl rfl rfl rfl ?_
          refine Ops.quiet (Qt.move rfl) rfl ?_
          refine Ops.guard_yes rfl rfl rfl rfl rfl ?_
          refine Ops.eff (Ef.call (fok fab_all rfl Tryz.func12 rfl) rfl (sniff_f w0 m hf _ (osl_reads (by repeat (first | exact List.Mem.head _ | apply List.Mem.tail))))) rfl ?_
          rintro _ c0 ⟨rfl, h0⟩; subst c0
          refine Ops.guard_yes rfl rfl rfl rfl rfl ?_
          refine Ops.quiet (Qt.move rfl) rfl ?_
          refine Ops.guard_yes rfl rfl rfl rfl rfl ?_
          refine Ops.quiet (Qt.neq rfl rfl) rfl ?_
          refine Ops.quiet (Qt.pick_f rfl rfl rfl) rfl ?_
          refine Ops.nil ?_
          refine H.then_normal ?_
          refine H.cond_false rfl (by exact bne_self_eq_false _) ?_
          refine H.skip ?_
          refine H.then_normal ?_
          refine H.seq ?_
          refine H.seq ?_
          refine H.region ?_
          refine Ops.quiet (Qt.move rfl) rfl ?_
          refine Ops.quiet (Qt.neq rfl rfl) rfl ?_
          refine Ops.quiet (Qt.move rfl) rfl ?_
          refine Ops.guard rfl rfl rfl rfl (fun g86 => ?_) (fun g86 => ?_)
          · have g86' := g86
            try simp only [decide_eq_true_eq, decide_eq_false_iff_not, beq_iff_eq, beq_eq_false_iff_ne, bne_iff_ne, ne_eq, Bool.not_eq_true', Bool.not_eq_false', bne_eq_false_iff_eq, Bool.not_eq_eq_eq_not, Bool.not_true, Bool.not_false] at g86'
            refine Ops.quiet (Qt.move rfl) rfl ?_
            refine Ops.guard_yes rfl rfl rfl rfl g86 ?_
            refine Ops.quiet (Qt.neq rfl rfl) rfl ?_
            refine Ops.quiet (Qt.pick_t rfl rfl g86) rfl ?_
            refine Ops.nil ?_
            refine H.then_normal ?_
            refine H.cond_false rfl (by exact bne_eq_false_iff_eq.2 (by omega)) ?_
            refine H.skip ?_
            refine H.then_normal ?_
            refine H.seq ?_
            have htl := textM_len hb hg
            refine H.region ?_
            refine Ops.quiet (Qt.load_agg rfl (tk rfl) rfl (by repeat (first | exact List.Mem.head _ | apply List.Mem.tail)) (by rfl) (by rfl)) rfl ?_
            refine Ops.eff (Ef.call (fok fab_all rfl Tryz.func13 rfl) rfl (spec_rtext w0 m a hb hg _ (by repeat (first | exact hm | apply MR.tail)))) rfl ?_
            rintro _ c0 ⟨rfl, h0⟩; subst c0
            refine Ops.eff (Ef.str_bytes rfl (tk rfl) (tk rfl) (tk rfl) (by omega)) rfl ?_
            rintro _ _ ⟨A102, c102, rfl, rfl⟩
            refine Ops.quiet (Qt.assign rfl) rfl ?_
            refine Ops.nil ?_
            refine H.then_normal ?_
            refine H.seq ?_
            refine H.seq ?_
            refine H.region ?_
            refine Ops.quiet (Qt.move rfl) rfl ?_
            refine Ops.quiet (Qt.eql rfl rfl) rfl ?_
            refine Ops.nil ?_
            refine H.then_normal ?_
            refine H.cond rfl (fun h104 => ?_) (fun h104 => ?_)
            · try simp only [decide_eq_true_eq, decide_eq_false_iff_not, beq_iff_eq, beq_eq_false_iff_ne, bne_iff_ne, ne_eq, Bool.not_eq_true', Bool.not_eq_false', bne_eq_false_iff_eq, Bool.not_eq_eq_eq_not, Bool.not_true, Bool.not_false] at h104
              refine H.region ?_
              refine Ops.quiet (Qt.load_agg rfl (tk rfl) rfl (by repeat (first | exact List.Mem.head _ | apply List.Mem.tail)) (by rfl) (by rfl)) rfl ?_
              refine Ops.eff (Ef.call (fok fab_all rfl Tryz.func14 rfl) rfl (spec_rbytes w0 m a hb hg _ (by repeat (first | exact hm | apply MR.tail)))) rfl ?_
              rintro _ _ ⟨A6, n6, c6, rfl, rfl⟩
              refine Ops.quiet (Qt.assign rfl) rfl ?_
              refine Ops.nil ?_
              refine H.then_normal ?_
              refine H.seq ?_
              refine H.region ?_
              refine Ops.quiet (Qt.move rfl) rfl ?_
              refine Ops.quiet (Qt.move rfl) rfl ?_
              refine Ops.eff (Ef.call (fok fab_all rfl Tryz.func10 rfl) rfl (spec_turn w0 hG m hb hg ho hf _ (osl_reads (by repeat (first | exact List.Mem.head _ | apply List.Mem.tail))))) rfl ?_
              rintro _ _ ⟨A7, c7, rfl, rfl⟩
              refine Ops.quiet (Qt.move rfl) rfl ?_
              refine Ops.quiet (Qt.extract rfl rfl) rfl ?_
              refine Ops.quiet (Qt.extract rfl rfl) rfl ?_
              refine Ops.quiet (Qt.assign rfl) rfl ?_
              refine Ops.quiet (Qt.assign rfl) rfl ?_
              refine Ops.nil ?_
              refine H.then_normal ?_
              refine H.seq ?_
              refine H.region ?_
              refine Ops.eff (Ef.call (fok fab_all rfl Tryz.func6 rfl) rfl (spec_tanswers w0 hG _)) rfl ?_
              rintro _ c0 ⟨rfl, h0⟩; subst c0
              refine Ops.quiet (Qt.move rfl) rfl ?_
              refine Ops.guard_yes rfl rfl rfl rfl rfl ?_
              refine Ops.quiet (Qt.move rfl) rfl ?_
              refine Ops.guard_yes rfl rfl rfl rfl rfl ?_
              refine Ops.quiet (Qt.eql rfl rfl) rfl ?_
              refine Ops.quiet (Qt.pick_t rfl rfl rfl) rfl ?_
              refine Ops.quiet (Qt.move rfl) rfl ?_
              refine Ops.guard_yes rfl rfl rfl rfl rfl ?_
              refine Ops.quiet (Qt.move rfl) rfl ?_
              refine Ops.guard_yes rfl rfl rfl rfl rfl ?_
              refine Ops.quiet (Qt.move rfl) rfl ?_
              refine Ops.guard_yes rfl rfl rfl rfl rfl ?_
              refine Ops.eff (Ef.call (fok fab_all rfl Tryz.func15 rfl) rfl (same_bytes (by omega) _ (osl_reads (by repeat (first | exact List.Mem.head _ | apply List.Mem.tail))) (osl_reads (by repeat (first | exact List.Mem.head _ | apply List.Mem.tail))))) rfl ?_
              rintro _ c0 ⟨rfl, h0⟩; subst c0
              refine Ops.quiet (Qt.pick_t rfl rfl rfl) rfl ?_
              refine Ops.quiet (Qt.move rfl) rfl ?_
              refine Ops.guard_yes rfl rfl rfl rfl rfl ?_
              refine Ops.quiet (Qt.move rfl) rfl ?_
              refine Ops.guard_yes rfl rfl rfl rfl rfl ?_
              refine Ops.quiet (Qt.eql rfl rfl) rfl ?_
              refine Ops.quiet (Qt.pick_t rfl rfl rfl) rfl ?_
              refine Ops.quiet (Qt.move rfl) rfl ?_
              refine Ops.guard_yes rfl rfl rfl rfl rfl ?_
              refine Ops.quiet (Qt.move rfl) rfl ?_
              refine Ops.guard_yes rfl rfl rfl rfl rfl ?_
              refine Ops.quiet (Qt.move rfl) rfl ?_
              refine Ops.guard_yes rfl rfl rfl rfl rfl ?_
              refine Ops.eff (Ef.call (fok fab_all rfl Tryz.func15 rfl) rfl (same_self _ (osl_reads (by repeat (first | exact List.Mem.head _ | apply List.Mem.tail))) (osl_reads (by repeat (first | exact List.Mem.head _ | apply List.Mem.tail))))) rfl ?_
              rintro _ c0 ⟨rfl, h0⟩; subst c0
              refine Ops.quiet (Qt.pick_t rfl rfl rfl) rfl ?_
              refine Ops.quiet (Qt.assign rfl) rfl ?_
              refine Ops.nil ?_
              refine H.then_normal ?_
              refine H.ret ?_
              refine (H.ends rfl (.cons (.tmp rfl) .nil) ?_)
              rfl
            · try simp only [decide_eq_true_eq, decide_eq_false_iff_not, beq_iff_eq, beq_eq_false_iff_ne, bne_iff_ne, ne_eq, Bool.not_eq_true', Bool.not_eq_false', bne_eq_false_iff_eq, Bool.not_eq_eq_eq_not, Bool.not_true, Bool.not_false] at h104
              exact absurd ho (by omega)
          · have g86' := g86
            try simp only [decide_eq_true_eq, decide_eq_false_iff_not, beq_iff_eq, beq_eq_false_iff_ne, bne_iff_ne, ne_eq, Bool.not_eq_true', Bool.not_eq_false', bne_eq_false_iff_eq, Bool.not_eq_eq_eq_not, Bool.not_true, Bool.not_false] at g86'
            refine Ops.guard_no rfl rfl rfl rfl g86 ?_
            refine Ops.quiet (Qt.pick_f rfl rfl g86) rfl ?_
            refine Ops.nil ?_
            refine H.then_normal ?_
            refine H.cond_false rfl (by rfl) ?_
            refine H.skip ?_
            refine H.then_normal ?_
            refine H.seq ?_
            have htl := textM_len hb hg
            refine H.region ?_
            refine Ops.quiet (Qt.load_agg rfl (tk rfl) rfl (by repeat (first | exact List.Mem.head _ | apply List.Mem.tail)) (by rfl) (by rfl)) rfl ?_
            refine Ops.eff (Ef.call (fok fab_all rfl Tryz.func13 rfl) rfl (spec_rtext w0 m a hb hg _ (by repeat (first | exact hm | apply MR.tail)))) rfl ?_
            rintro _ c0 ⟨rfl, h0⟩; subst c0
            refine Ops.eff (Ef.str_bytes rfl (tk rfl) (tk rfl) (tk rfl) (by omega)) rfl ?_
            rintro _ _ ⟨A102, c102, rfl, rfl⟩
            refine Ops.quiet (Qt.assign rfl) rfl ?_
            refine Ops.nil ?_
            refine H.then_normal ?_
            refine H.seq ?_
            refine H.seq ?_
            refine H.region ?_
            refine Ops.quiet (Qt.move rfl) rfl ?_
            refine Ops.quiet (Qt.eql rfl rfl) rfl ?_
            refine Ops.nil ?_
            refine H.then_normal ?_
            refine H.cond rfl (fun h104 => ?_) (fun h104 => ?_)
            · try simp only [decide_eq_true_eq, decide_eq_false_iff_not, beq_iff_eq, beq_eq_false_iff_ne, bne_iff_ne, ne_eq, Bool.not_eq_true', Bool.not_eq_false', bne_eq_false_iff_eq, Bool.not_eq_eq_eq_not, Bool.not_true, Bool.not_false] at h104
              exact absurd h104 (by omega)
            · try simp only [decide_eq_true_eq, decide_eq_false_iff_not, beq_iff_eq, beq_eq_false_iff_ne, bne_iff_ne, ne_eq, Bool.not_eq_true', Bool.not_eq_false', bne_eq_false_iff_eq, Bool.not_eq_eq_eq_not, Bool.not_true, Bool.not_false] at h104
              refine H.skip ?_
              refine H.then_normal ?_
              refine H.seq ?_
              refine H.region ?_
              refine Ops.quiet (Qt.move rfl) rfl ?_
              refine Ops.quiet (Qt.move rfl) rfl ?_
              refine Ops.eff (Ef.call (fok fab_all rfl Tryz.func10 rfl) rfl (spec_turn w0 hG m hb hg ho hf _ (osl_reads (by repeat (first | exact List.Mem.head _ | apply List.Mem.tail))))) rfl ?_
              rintro _ _ ⟨A7, c7, rfl, rfl⟩
              refine Ops.quiet (Qt.move rfl) rfl ?_
              refine Ops.quiet (Qt.extract rfl rfl) rfl ?_
              refine Ops.quiet (Qt.extract rfl rfl) rfl ?_
              refine Ops.quiet (Qt.assign rfl) rfl ?_
              refine Ops.quiet (Qt.assign rfl) rfl ?_
              refine Ops.nil ?_
              refine H.then_normal ?_
              refine H.seq ?_
              refine H.region ?_
              refine Ops.eff (Ef.call (fok fab_all rfl Tryz.func6 rfl) rfl (spec_tanswers w0 hG _)) rfl ?_
              rintro _ c0 ⟨rfl, h0⟩; subst c0
              refine Ops.quiet (Qt.move rfl) rfl ?_
              refine Ops.guard_yes rfl rfl rfl rfl rfl ?_
              refine Ops.quiet (Qt.move rfl) rfl ?_
              refine Ops.guard_yes rfl rfl rfl rfl rfl ?_
              refine Ops.quiet (Qt.eql rfl rfl) rfl ?_
              refine Ops.quiet (Qt.pick_t rfl rfl rfl) rfl ?_
              refine Ops.quiet (Qt.move rfl) rfl ?_
              refine Ops.guard_yes rfl rfl rfl rfl rfl ?_
              refine Ops.quiet (Qt.move rfl) rfl ?_
              refine Ops.guard_yes rfl rfl rfl rfl rfl ?_
              refine Ops.quiet (Qt.move rfl) rfl ?_
              refine Ops.guard_yes rfl rfl rfl rfl rfl ?_
              refine Ops.eff (Ef.call (fok fab_all rfl Tryz.func15 rfl) rfl (same_text (by omega) _ (osl_reads (by repeat (first | exact List.Mem.head _ | apply List.Mem.tail))) (osl_reads (by repeat (first | exact List.Mem.head _ | apply List.Mem.tail))))) rfl ?_
              rintro _ c0 ⟨rfl, h0⟩; subst c0
              refine Ops.quiet (Qt.pick_t rfl rfl rfl) rfl ?_
              refine Ops.quiet (Qt.move rfl) rfl ?_
              refine Ops.guard_yes rfl rfl rfl rfl rfl ?_
              refine Ops.quiet (Qt.move rfl) rfl ?_
              refine Ops.guard_yes rfl rfl rfl rfl rfl ?_
              refine Ops.quiet (Qt.eql rfl rfl) rfl ?_
              refine Ops.quiet (Qt.pick_t rfl rfl rfl) rfl ?_
              refine Ops.quiet (Qt.move rfl) rfl ?_
              refine Ops.guard_yes rfl rfl rfl rfl rfl ?_
              refine Ops.quiet (Qt.move rfl) rfl ?_
              refine Ops.guard_yes rfl rfl rfl rfl rfl ?_
              refine Ops.quiet (Qt.move rfl) rfl ?_
              refine Ops.guard_yes rfl rfl rfl rfl rfl ?_
              refine Ops.eff (Ef.call (fok fab_all rfl Tryz.func15 rfl) rfl (same_self _ (osl_reads (by repeat (first | exact List.Mem.head _ | apply List.Mem.tail))) (osl_reads (by repeat (first | exact List.Mem.head _ | apply List.Mem.tail))))) rfl ?_
              rintro _ c0 ⟨rfl, h0⟩; subst c0
              refine Ops.quiet (Qt.pick_t rfl rfl rfl) rfl ?_
              refine Ops.quiet (Qt.assign rfl) rfl ?_
              refine Ops.nil ?_
              refine H.then_normal ?_
              refine H.ret ?_
              refine (H.ends rfl (.cons (.tmp rfl) .nil) ?_)
              rfl
        · refine H.region ?_
          refine Ops.quiet (Qt.move rfl) rfl ?_
          refine Ops.quiet (Qt.move rfl) rfl ?_
          refine Ops.eff (Ef.call (fok fab_all rfl Tryz.func10 rfl) rfl (spec_turn_arg w0 ho _ _)) rfl ?_
          rintro _ c0 ⟨rfl, h0⟩; subst c0
          refine Ops.quiet (Qt.move rfl) rfl ?_
          refine Ops.quiet (Qt.extract rfl rfl) rfl ?_
          refine Ops.quiet (Qt.extract rfl rfl) rfl ?_
          refine Ops.quiet (Qt.assign rfl) rfl ?_
          refine Ops.quiet (Qt.assign rfl) rfl ?_
          refine Ops.nil ?_
          refine H.then_normal ?_
          refine H.seq ?_
          refine H.seq ?_
          refine H.region ?_
          refine Ops.quiet (Qt.move rfl) rfl ?_
          refine Ops.quiet (Qt.neq rfl rfl) rfl ?_
          refine Ops.quiet (Qt.move rfl) rfl ?_
          refine Ops.guard_yes rfl rfl rfl rfl rfl ?_
          refine Ops.quiet (Qt.move rfl) rfl ?_
          refine Ops.guard_yes rfl rfl rfl rfl rfl ?_
          refine Ops.quiet (Qt.neq rfl rfl) rfl ?_
          refine Ops.quiet (Qt.pick_f rfl rfl rfl) rfl ?_
          refine Ops.quiet (Qt.move rfl) rfl ?_
          refine Ops.guard_yes rfl rfl rfl rfl rfl ?_
          refine Ops.quiet (Qt.load_agg rfl (tk rfl) rfl (by repeat (first | exact List.Mem.head _ | apply List.Mem.tail)) (by rfl) (by rfl)) rfl ?_
          refine Ops.guard_yes rfl rfl rfl rfl rfl ?_
          refine Ops.quiet (Qt.load_agg rfl (tk rfl) rfl (by repeat (first | exact List.Mem.head _ | apply List.Mem.tail)) (by rfl) (by rfl)) rfl ?_
          refine Ops.guard_yes rfl rfl rfl rfl rfl ?_
          refine Ops.eff (Ef.call (fok fab_all rfl Tryz.func11 rfl) rfl (spec_same w0 m a' a _ ⟨osl_reads (by repeat (first | exact List.Mem.head _ | apply List.Mem.tail)), osl_reads (by repeat (first | exact List.Mem.head _ | apply List.Mem.tail)), osl_reads (by repeat (first | exact List.Mem.head _ | apply List.Mem.tail))⟩ (by first | exact hm.tail | exact hm.tail.tail | exact hm.tail.tail.tail | exact hm.tail.tail.tail.tail | exact hm.tail.tail.tail.tail.tail | exact hm.tail.tail.tail.tail.tail.tail | exact hm.tail.tail.tail.tail.tail.tail.tail | exact hm.tail.tail.tail.tail.tail.tail.tail.tail))) rfl ?_
          rintro _ c0 ⟨rfl, h0⟩; subst c0
          refine Ops.guard_yes rfl rfl rfl rfl rfl ?_
          refine Ops.quiet (Qt.not rfl) rfl ?_
          refine Ops.quiet (Qt.pick_f rfl rfl rfl) rfl ?_
          refine Ops.quiet (Qt.move rfl) rfl ?_
          refine Ops.guard_yes rfl rfl rfl rfl rfl ?_
          refine Ops.quiet (Qt.move rfl) rfl ?_
          refine Ops.guard_yes rfl rfl rfl rfl rfl ?_
          refine Ops.eff (Ef.call (fok fab_all rfl Tryz.func12 rfl) rfl (sniff_f w0 m hf _ (osl_reads (by repeat (first | exact List.Mem.head _ | apply List.Mem.tail))))) rfl ?_
          rintro _ c0 ⟨rfl, h0⟩; subst c0
          refine Ops.guard_yes rfl rfl rfl rfl rfl ?_
          refine Ops.quiet (Qt.move rfl) rfl ?_
          refine Ops.guard_yes rfl rfl rfl rfl rfl ?_
          refine Ops.quiet (Qt.neq rfl rfl) rfl ?_
          refine Ops.quiet (Qt.pick_f rfl rfl rfl) rfl ?_
          refine Ops.nil ?_
          refine H.then_normal ?_
          refine H.cond_false rfl (by exact bne_self_eq_false _) ?_
          refine H.skip ?_
          refine H.then_normal ?_
          refine H.seq ?_
          refine H.seq ?_
          refine H.region ?_
          refine Ops.quiet (Qt.move rfl) rfl ?_
          refine Ops.quiet (Qt.neq rfl rfl) rfl ?_
          refine Ops.quiet (Qt.move rfl) rfl ?_
          refine Ops.guard rfl rfl rfl rfl (fun g86 => ?_) (fun g86 => ?_)
          · have g86' := g86
            try simp only [decide_eq_true_eq, decide_eq_false_iff_not, beq_iff_eq, beq_eq_false_iff_ne, bne_iff_ne, ne_eq, Bool.not_eq_true', Bool.not_eq_false', bne_eq_false_iff_eq, Bool.not_eq_eq_eq_not, Bool.not_true, Bool.not_false] at g86'
            refine Ops.quiet (Qt.move rfl) rfl ?_
            refine Ops.guard_yes rfl rfl rfl rfl g86 ?_
            refine Ops.quiet (Qt.neq rfl rfl) rfl ?_
            refine Ops.quiet (Qt.pick_t rfl rfl g86) rfl ?_
            refine Ops.nil ?_
            refine H.then_normal ?_
            refine H.cond_true rfl (by exact bne_iff_ne.2 (by omega)) ?_
            refine H.seq ?_
            refine H.region ?_
            refine Ops.eff (Ef.call (fok fab_all rfl Tryz.func6 rfl) rfl (spec_tanswers w0 hG _)) rfl ?_
            rintro _ c0 ⟨rfl, h0⟩; subst c0
            refine Ops.quiet (Qt.move rfl) rfl ?_
            refine Ops.guard_yes rfl rfl rfl rfl rfl ?_
            refine Ops.quiet (Qt.move rfl) rfl ?_
            refine Ops.guard_yes rfl rfl rfl rfl rfl ?_
            refine Ops.quiet (Qt.eql rfl rfl) rfl ?_
            refine Ops.quiet (Qt.pick_t rfl rfl rfl) rfl ?_
            refine Ops.quiet (Qt.move rfl) rfl ?_
            refine Ops.guard_yes rfl rfl rfl rfl rfl ?_
            refine Ops.quiet (Qt.move rfl) rfl ?_
            refine Ops.guard_yes rfl rfl rfl rfl rfl ?_
            refine Ops.quiet (Qt.len_sl (ats := #[]) rfl (tk rfl)) rfl ?_
            refine Ops.guard_yes rfl rfl rfl rfl rfl ?_
            refine Ops.quiet (Qt.eql rfl rfl) rfl ?_
            refine Ops.quiet (Qt.pick_t rfl rfl rfl) rfl ?_
            refine Ops.quiet (Qt.assign rfl) rfl ?_
            refine Ops.nil ?_
            refine H.then_normal ?_
            refine H.ret ?_
            refine H.then_ret ?_
            refine (H.ends rfl (.cons (.tmp rfl) .nil) ?_)
            rfl
          · have g86' := g86
            try simp only [decide_eq_true_eq, decide_eq_false_iff_not, beq_iff_eq, beq_eq_false_iff_ne, bne_iff_ne, ne_eq, Bool.not_eq_true', Bool.not_eq_false', bne_eq_false_iff_eq, Bool.not_eq_eq_eq_not, Bool.not_true, Bool.not_false] at g86'
            exact absurd ho (by omega)
      · have g28' := g28
        try simp only [decide_eq_true_eq, decide_eq_false_iff_not, beq_iff_eq, beq_eq_false_iff_ne, bne_iff_ne, ne_eq, Bool.not_eq_true', Bool.not_eq_false', bne_eq_false_iff_eq, Bool.not_eq_eq_eq_not, Bool.not_true, Bool.not_false] at g28'
        refine Ops.guard_no rfl rfl rfl rfl g28 ?_
        refine Ops.quiet (Qt.pick_f rfl rfl g28) rfl ?_
        refine Ops.nil ?_
        refine H.then_normal ?_
        refine H.cond_false rfl (by rfl) ?_
        refine H.skip ?_
        refine H.then_normal ?_
        refine H.seq ?_
        refine H.seq ?_
        refine H.region ?_
        refine Ops.quiet (Qt.load_agg rfl (tk rfl) rfl (by repeat (first | exact List.Mem.head _ | apply List.Mem.tail)) (by rfl) (by rfl)) rfl ?_
        refine Ops.eff (Ef.call (fok fab_all rfl Tryz.func8 rfl) rfl (hgr _ (by first | exact hm.tail | exact hm.tail.tail | exact hm.tail.tail.tail))) rfl ?_
        rintro _ c0 ⟨rfl, h0⟩; subst c0
        refine Ops.quiet (Qt.not rfl) rfl ?_
        refine Ops.nil ?_
        refine H.then_normal ?_
        refine H.cond_false rfl (by rw [goodM_iff.2 hg]; rfl) ?_
        refine H.skip ?_
        refine H.then_normal ?_
        refine H.seq ?_
        refine H.region ?_
        refine Ops.quiet (Qt.move rfl) rfl ?_
        refine Ops.eff (Ef.call (fok fab_all rfl Tryz.func9 rfl) rfl (spec_tdecode w0 hG m hb hg hf _ (osl_reads (.head _)))) rfl ?_
        rintro _ _ ⟨a', rfl, rfl⟩
        refine Ops.quiet (Qt.move rfl) rfl ?_
        refine Ops.quiet (Qt.extract rfl rfl) rfl ?_
        refine Ops.quiet (Qt.extract rfl rfl) rfl ?_
        refine Ops.eff (Ef.alloc (zk rfl)) rfl ?_
        rintro _ _ ⟨b9, rfl, rfl⟩
        refine Ops.eff (Ef.store rfl rfl (tk rfl) rfl rfl (by repeat (first | exact ones_nil | refine ones_cons rfl ?_)) (by repeat (first | exact Upd.head | apply Upd.tail)) (by rfl)) rfl ?_
        rintro _ _ rfl
        refine Ops.quiet (Qt.assign rfl) rfl ?_
        refine Ops.nil ?_
        refine H.then_normal ?_
        refine H.seq ?_
        rcases Classical.em (o = 1 ∨ o = 2) with ho | ho
        · refine H.region ?_
          refine Ops.quiet (Qt.move rfl) rfl ?_
          refine Ops.quiet (Qt.move rfl) rfl ?_
          refine Ops.eff (Ef.call (fok fab_all rfl Tryz.func10 rfl) rfl (spec_turn w0 hG m hb hg hf ho _ (osl_reads (by repeat (first | exact List.Mem.head _ | apply List.Mem.tail))))) rfl ?_
          rintro _ _ ⟨A2, c2, rfl, rfl⟩
          refine Ops.quiet (Qt.move rfl) rfl ?_
          refine Ops.quiet (Qt.extract rfl rfl) rfl ?_
          refine Ops.quiet (Qt.extract rfl rfl) rfl ?_
          refine Ops.quiet (Qt.assign rfl) rfl ?_
          refine Ops.quiet (Qt.assign rfl) rfl ?_
          refine Ops.nil ?_
          refine H.then_normal ?_
          refine H.seq ?_
          refine H.seq ?_
          refine H.region ?_
          refine Ops.quiet (Qt.move rfl) rfl ?_
          refine Ops.quiet (Qt.neq rfl rfl) rfl ?_
          refine Ops.quiet (Qt.move rfl) rfl ?_
          refine Ops.guard_yes rfl rfl rfl rfl rfl ?_
          refine Ops.quiet (Qt.move rfl) rfl ?_
          refine Ops.guard_yes rfl rfl rfl rfl rfl ?_
          refine Ops.quiet (Qt.neq rfl rfl) rfl ?_
          refine Ops.quiet (Qt.pick_f rfl rfl rfl) rfl ?_
          refine Ops.quiet (Qt.move rfl) rfl ?_
          refine Ops.guard_yes rfl rfl rfl rfl rfl ?_
          refine Ops.quiet (Qt.load_agg rfl (tk rfl) rfl (by repeat (first | exact List.Mem.head _ | apply List.Mem.tail)) (by rfl) (by rfl)) rfl ?_
          refine Ops.guard_yes rfl rfl rfl rfl rfl ?_
          refine Ops.quiet (Qt.load_agg rfl (tk rfl) rfl (by repeat (first | exact List.Mem.head _ | apply List.Mem.tail)) (by rfl) (by rfl)) rfl ?_
          refine Ops.guard_yes rfl rfl rfl rfl rfl ?_
          refine Ops.eff (Ef.call (fok fab_all rfl Tryz.func11 rfl) rfl (spec_same w0 m a' a _ ⟨osl_reads (by repeat (first | exact List.Mem.head _ | apply List.Mem.tail)), osl_reads (by repeat (first | exact List.Mem.head _ | apply List.Mem.tail)), osl_reads (by repeat (first | exact List.Mem.head _ | apply List.Mem.tail))⟩ (by first | exact hm.tail | exact hm.tail.tail | exact hm.tail.tail.tail | exact hm.tail.tail.tail.tail | exact hm.tail.tail.tail.tail.tail | exact hm.tail.tail.tail.tail.tail.tail | exact hm.tail.tail.tail.tail.tail.tail.tail | exact hm.tail.tail.tail.tail.tail.tail.tail.tail))) rfl ?_
          rintro _ c0 ⟨rfl, h0⟩; subst c0
          refine Ops.guard_yes rfl rfl rfl rfl rfl ?_
          refine Ops.quiet (Qt.not rfl) rfl ?_
          refine Ops.quiet (Qt.pick_f rfl rfl rfl) rfl ?_
          refine Ops.quiet (Qt.move rfl) rfl ?_
          refine Ops.guard_yes rfl rfl rfl rfl rfl ?_
          refine Ops.quiet (Qt.move rfl) rfl ?_
          refine Ops.guard_yes rfl rfl rfl rfl rfl ?_
          refine Ops.eff (Ef.call (fok fab_all rfl Tryz.func12 rfl) rfl (sniff_f w0 m hf _ (osl_reads (by repeat (first | exact List.Mem.head _ | apply List.Mem.tail))))) rfl ?_
          rintro _ c0 ⟨rfl, h0⟩; subst c0
          refine Ops.guard_yes rfl rfl rfl rfl rfl ?_
          refine Ops.quiet (Qt.move rfl) rfl ?_
          refine Ops.guard_yes rfl rfl rfl rfl rfl ?_
          refine Ops.quiet (Qt.neq rfl rfl) rfl ?_
          refine Ops.quiet (Qt.pick_f rfl rfl rfl) rfl ?_
          refine Ops.nil ?_
          refine H.then_normal ?_
          refine H.cond_false rfl (by exact bne_self_eq_false _) ?_
          refine H.skip ?_
          refine H.then_normal ?_
          refine H.seq ?_
          refine H.seq ?_
          refine H.region ?_
          refine Ops.quiet (Qt.move rfl) rfl ?_
          refine Ops.quiet (Qt.neq rfl rfl) rfl ?_
          refine Ops.quiet (Qt.move rfl) rfl ?_
          refine Ops.guard rfl rfl rfl rfl (fun g86 => ?_) (fun g86 => ?_)
          · have g86' := g86
            try simp only [decide_eq_true_eq, decide_eq_false_iff_not, beq_iff_eq, beq_eq_false_iff_ne, bne_iff_ne, ne_eq, Bool.not_eq_true', Bool.not_eq_false', bne_eq_false_iff_eq, Bool.not_eq_eq_eq_not, Bool.not_true, Bool.not_false] at g86'
            refine Ops.quiet (Qt.move rfl) rfl ?_
            refine Ops.guard_yes rfl rfl rfl rfl g86 ?_
            refine Ops.quiet (Qt.neq rfl rfl) rfl ?_
            refine Ops.quiet (Qt.pick_t rfl rfl g86) rfl ?_
            refine Ops.nil ?_
            refine H.then_normal ?_
            refine H.cond_false rfl (by exact bne_eq_false_iff_eq.2 (by omega)) ?_
            refine H.skip ?_
            refine H.then_normal ?_
            refine H.seq ?_
            have htl := textM_len hb hg
            refine H.region ?_
            refine Ops.quiet (Qt.load_agg rfl (tk rfl) rfl (by repeat (first | exact List.Mem.head _ | apply List.Mem.tail)) (by rfl) (by rfl)) rfl ?_
            refine Ops.eff (Ef.call (fok fab_all rfl Tryz.func13 rfl) rfl (spec_rtext w0 m a hb hg _ (by repeat (first | exact hm | apply MR.tail)))) rfl ?_
            rintro _ c0 ⟨rfl, h0⟩; subst c0
            refine Ops.eff (Ef.str_bytes rfl (tk rfl) (tk rfl) (tk rfl) (by omega)) rfl ?_
            rintro _ _ ⟨A102, c102, rfl, rfl⟩
            refine Ops.quiet (Qt.assign rfl) rfl ?_
            refine Ops.nil ?_
            refine H.then_normal ?_
            refine H.seq ?_
            refine H.seq ?_
            refine H.region ?_
            refine Ops.quiet (Qt.move rfl) rfl ?_
            refine Ops.quiet (Qt.eql rfl rfl) rfl ?_
            refine Ops.nil ?_
            refine H.then_normal ?_
            refine H.cond rfl (fun h104 => ?_) (fun h104 => ?_)
            · try simp only [decide_eq_true_eq, decide_eq_false_iff_not, beq_iff_eq, beq_eq_false_iff_ne, bne_iff_ne, ne_eq, Bool.not_eq_true', Bool.not_eq_false', bne_eq_false_iff_eq, Bool.not_eq_eq_eq_not, Bool.not_true, Bool.not_false] at h104
              refine H.region ?_
              refine Ops.quiet (Qt.load_agg rfl (tk rfl) rfl (by repeat (first | exact List.Mem.head _ | apply List.Mem.tail)) (by rfl) (by rfl)) rfl ?_
              refine Ops.eff (Ef.call (fok fab_all rfl Tryz.func14 rfl) rfl (spec_rbytes w0 m a hb hg _ (by repeat (first | exact hm | apply MR.tail)))) rfl ?_
              rintro _ _ ⟨A6, n6, c6, rfl, rfl⟩
              refine Ops.quiet (Qt.assign rfl) rfl ?_
              refine Ops.nil ?_
              refine H.then_normal ?_
              refine H.seq ?_
              refine H.region ?_
              refine Ops.quiet (Qt.move rfl) rfl ?_
              refine Ops.quiet (Qt.move rfl) rfl ?_
              refine Ops.eff (Ef.call (fok fab_all rfl Tryz.func10 rfl) rfl (spec_turn w0 hG m hb hg ho hf _ (osl_reads (by repeat (first | exact List.Mem.head _ | apply List.Mem.tail))))) rfl ?_
              rintro _ _ ⟨A7, c7, rfl, rfl⟩
              refine Ops.quiet (Qt.move rfl) rfl ?_
              refine Ops.quiet (Qt.extract rfl rfl) rfl ?_
              refine Ops.quiet (Qt.extract rfl rfl) rfl ?_
              refine Ops.quiet (Qt.assign rfl) rfl ?_
              refine Ops.quiet (Qt.assign rfl) rfl ?_
              refine Ops.nil ?_
              refine H.then_normal ?_
              refine H.seq ?_
              refine H.region ?_
              refine Ops.eff (Ef.call (fok fab_all rfl Tryz.func6 rfl) rfl (spec_tanswers w0 hG _)) rfl ?_
              rintro _ c0 ⟨rfl, h0⟩; subst c0
              refine Ops.quiet (Qt.move rfl) rfl ?_
              refine Ops.guard_yes rfl rfl rfl rfl rfl ?_
              refine Ops.quiet (Qt.move rfl) rfl ?_
              refine Ops.guard_yes rfl rfl rfl rfl rfl ?_
              refine Ops.quiet (Qt.eql rfl rfl) rfl ?_
              refine Ops.quiet (Qt.pick_t rfl rfl rfl) rfl ?_
              refine Ops.quiet (Qt.move rfl) rfl ?_
              refine Ops.guard_yes rfl rfl rfl rfl rfl ?_
              refine Ops.quiet (Qt.move rfl) rfl ?_
              refine Ops.guard_yes rfl rfl rfl rfl rfl ?_
              refine Ops.quiet (Qt.move rfl) rfl ?_
              refine Ops.guard_yes rfl rfl rfl rfl rfl ?_
              refine Ops.eff (Ef.call (fok fab_all rfl Tryz.func15 rfl) rfl (same_bytes (by omega) _ (osl_reads (by repeat (first | exact List.Mem.head _ | apply List.Mem.tail))) (osl_reads (by repeat (first | exact List.Mem.head _ | apply List.Mem.tail))))) rfl ?_
              rintro _ c0 ⟨rfl, h0⟩; subst c0
              refine Ops.quiet (Qt.pick_t rfl rfl rfl) rfl ?_
              refine Ops.quiet (Qt.move rfl) rfl ?_
              refine Ops.guard_yes rfl rfl rfl rfl rfl ?_
              refine Ops.quiet (Qt.move rfl) rfl ?_
              refine Ops.guard_yes rfl rfl rfl rfl rfl ?_
              refine Ops.quiet (Qt.eql rfl rfl) rfl ?_
              refine Ops.quiet (Qt.pick_t rfl rfl rfl) rfl ?_
              refine Ops.quiet (Qt.move rfl) rfl ?_
              refine Ops.guard_yes rfl rfl rfl rfl rfl ?_
              refine Ops.quiet (Qt.move rfl) rfl ?_
              refine Ops.guard_yes rfl rfl rfl rfl rfl ?_
              refine Ops.quiet (Qt.move rfl) rfl ?_
              refine Ops.guard_yes rfl rfl rfl rfl rfl ?_
              refine Ops.eff (Ef.call (fok fab_all rfl Tryz.func15 rfl) rfl (same_self _ (osl_reads (by repeat (first | exact List.Mem.head _ | apply List.Mem.tail))) (osl_reads (by repeat (first | exact List.Mem.head _ | apply List.Mem.tail))))) rfl ?_
              rintro _ c0 ⟨rfl, h0⟩; subst c0
              refine Ops.quiet (Qt.pick_t rfl rfl rfl) rfl ?_
              refine Ops.quiet (Qt.assign rfl) rfl ?_
              refine Ops.nil ?_
              refine H.then_normal ?_
              refine H.ret ?_
              refine (H.ends rfl (.cons (.tmp rfl) .nil) ?_)
              rfl
            · try simp only [decide_eq_true_eq, decide_eq_false_iff_not, beq_iff_eq, beq_eq_false_iff_ne, bne_iff_ne, ne_eq, Bool.not_eq_true', Bool.not_eq_false', bne_eq_false_iff_eq, Bool.not_eq_eq_eq_not, Bool.not_true, Bool.not_false] at h104
              exact absurd ho (by omega)
          · have g86' := g86
            try simp only [decide_eq_true_eq, decide_eq_false_iff_not, beq_iff_eq, beq_eq_false_iff_ne, bne_iff_ne, ne_eq, Bool.not_eq_true', Bool.not_eq_false', bne_eq_false_iff_eq, Bool.not_eq_eq_eq_not, Bool.not_true, Bool.not_false] at g86'
            refine Ops.guard_no rfl rfl rfl rfl g86 ?_
            refine Ops.quiet (Qt.pick_f rfl rfl g86) rfl ?_
            refine Ops.nil ?_
            refine H.then_normal ?_
            refine H.cond_false rfl (by rfl) ?_
            refine H.skip ?_
            refine H.then_normal ?_
            refine H.seq ?_
            have htl := textM_len hb hg
            refine H.region ?_
            refine Ops.quiet (Qt.load_agg rfl (tk rfl) rfl (by repeat (first | exact List.Mem.head _ | apply List.Mem.tail)) (by rfl) (by rfl)) rfl ?_
            refine Ops.eff (Ef.call (fok fab_all rfl Tryz.func13 rfl) rfl (spec_rtext w0 m a hb hg _ (by repeat (first | exact hm | apply MR.tail)))) rfl ?_
            rintro _ c0 ⟨rfl, h0⟩; subst c0
            refine Ops.eff (Ef.str_bytes rfl (tk rfl) (tk rfl) (tk rfl) (by omega)) rfl ?_
            rintro _ _ ⟨A102, c102, rfl, rfl⟩
            refine Ops.quiet (Qt.assign rfl) rfl ?_
            refine Ops.nil ?_
            refine H.then_normal ?_
            refine H.seq ?_
            refine H.seq ?_
            refine H.region ?_
            refine Ops.quiet (Qt.move rfl) rfl ?_
            refine Ops.quiet (Qt.eql rfl rfl) rfl ?_
            refine Ops.nil ?_
            refine H.then_normal ?_
            refine H.cond rfl (fun h104 => ?_) (fun h104 => ?_)
            · try simp only [decide_eq_true_eq, decide_eq_false_iff_not, beq_iff_eq, beq_eq_false_iff_ne, bne_iff_ne, ne_eq, Bool.not_eq_true', Bool.not_eq_false', bne_eq_false_iff_eq, Bool.not_eq_eq_eq_not, Bool.not_true, Bool.not_false] at h104
              exact absurd h104 (by omega)
            · try simp only [decide_eq_true_eq, decide_eq_false_iff_not, beq_iff_eq, beq_eq_false_iff_ne, bne_iff_ne, ne_eq, Bool.not_eq_true', Bool.not_eq_false', bne_eq_false_iff_eq, Bool.not_eq_eq_eq_not, Bool.not_true, Bool.not_false] at h104
              refine H.skip ?_
              refine H.then_normal ?_
              refine H.seq ?_
              refine H.region ?_
              refine Ops.quiet (Qt.move rfl) rfl ?_
              refine Ops.quiet (Qt.move rfl) rfl ?_
              refine Ops.eff (Ef.call (fok fab_all rfl Tryz.func10 rfl) rfl (spec_turn w0 hG m hb hg ho hf _ (osl_reads (by repeat (first | exact List.Mem.head _ | apply List.Mem.tail))))) rfl ?_
              rintro _ _ ⟨A7, c7, rfl, rfl⟩
              refine Ops.quiet (Qt.move rfl) rfl ?_
              refine Ops.quiet (Qt.extract rfl rfl) rfl ?_
              refine Ops.quiet (Qt.extract rfl rfl) rfl ?_
              refine Ops.quiet (Qt.assign rfl) rfl ?_
              refine Ops.quiet (Qt.assign rfl) rfl ?_
              refine Ops.nil ?_
              refine H.then_normal ?_
              refine H.seq ?_
              refine H.region ?_
              refine Ops.eff (Ef.call (fok fab_all rfl Tryz.func6 rfl) rfl (spec_tanswers w0 hG _)) rfl ?_
              rintro _ c0 ⟨rfl, h0⟩; subst c0
              refine Ops.quiet (Qt.move rfl) rfl ?_
              refine Ops.guard_yes rfl rfl rfl rfl rfl ?_
              refine Ops.quiet (Qt.move rfl) rfl ?_
              refine Ops.guard_yes rfl rfl rfl rfl rfl ?_
              refine Ops.quiet (Qt.eql rfl rfl) rfl ?_
              refine Ops.quiet (Qt.pick_t rfl rfl rfl) rfl ?_
              refine Ops.quiet (Qt.move rfl) rfl ?_
              refine Ops.guard_yes rfl rfl rfl rfl rfl ?_
              refine Ops.quiet (Qt.move rfl) rfl ?_
              refine Ops.guard_yes rfl rfl rfl rfl rfl ?_
              refine Ops.quiet (Qt.move rfl) rfl ?_
              refine Ops.guard_yes rfl rfl rfl rfl rfl ?_
              refine Ops.eff (Ef.call (fok fab_all rfl Tryz.func15 rfl) rfl (same_text (by omega) _ (osl_reads (by repeat (first | exact List.Mem.head _ | apply List.Mem.tail))) (osl_reads (by repeat (first | exact List.Mem.head _ | apply List.Mem.tail))))) rfl ?_
              rintro _ c0 ⟨rfl, h0⟩; subst c0
              refine Ops.quiet (Qt.pick_t rfl rfl rfl) rfl ?_
              refine Ops.quiet (Qt.move rfl) rfl ?_
              refine Ops.guard_yes rfl rfl rfl rfl rfl ?_
              refine Ops.quiet (Qt.move rfl) rfl ?_
              refine Ops.guard_yes rfl rfl rfl rfl rfl ?_
              refine Ops.quiet (Qt.eql rfl rfl) rfl ?_
              refine Ops.quiet (Qt.pick_t rfl rfl rfl) rfl ?_
              refine Ops.quiet (Qt.move rfl) rfl ?_
              refine Ops.guard_yes rfl rfl rfl rfl rfl ?_
              refine Ops.quiet (Qt.move rfl) rfl ?_
              refine Ops.guard_yes rfl rfl rfl rfl rfl ?_
              refine Ops.quiet (Qt.move rfl) rfl ?_
              refine Ops.guard_yes rfl rfl rfl rfl rfl ?_
              refine Ops.eff (Ef.call (fok fab_all rfl Tryz.func15 rfl) rfl (same_self _ (osl_reads (by repeat (first | exact List.Mem.head _ | apply List.Mem.tail))) (osl_reads (by repeat (first | exact List.Mem.head _ | apply List.Mem.tail))))) rfl ?_
              rintro _ c0 ⟨rfl, h0⟩; subst c0
              refine Ops.quiet (Qt.pick_t rfl rfl rfl) rfl ?_
              refine Ops.quiet (Qt.assign rfl) rfl ?_
              refine Ops.nil ?_
              refine H.then_normal ?_
              refine H.ret ?_
              refine (H.ends rfl (.cons (.tmp rfl) .nil) ?_)
              rfl
        · refine H.region ?_
          refine Ops.quiet (Qt.move rfl) rfl ?_
          refine Ops.quiet (Qt.move rfl) rfl ?_
          refine Ops.eff (Ef.call (fok fab_all rfl Tryz.func10 rfl) rfl (spec_turn_arg w0 ho _ _)) rfl ?_
          rintro _ c0 ⟨rfl, h0⟩; subst c0
          refine Ops.quiet (Qt.move rfl) rfl ?_
          refine Ops.quiet (Qt.extract rfl rfl) rfl ?_
          refine Ops.quiet (Qt.extract rfl rfl) rfl ?_
          refine Ops.quiet (Qt.assign rfl) rfl ?_
          refine Ops.quiet (Qt.assign rfl) rfl ?_
          refine Ops.nil ?_
          refine H.then_normal ?_
          refine H.seq ?_
          refine H.seq ?_
          refine H.region ?_
          refine Ops.quiet (Qt.move rfl) rfl ?_
          refine Ops.quiet (Qt.neq rfl rfl) rfl ?_
          refine Ops.quiet (Qt.move rfl) rfl ?_
          refine Ops.guard_yes rfl rfl rfl rfl rfl ?_
          refine Ops.quiet (Qt.move rfl) rfl ?_
          refine Ops.guard_yes rfl rfl rfl rfl rfl ?_
          refine Ops.quiet (Qt.neq rfl rfl) rfl ?_
          refine Ops.quiet (Qt.pick_f rfl rfl rfl) rfl ?_
          refine Ops.quiet (Qt.move rfl) rfl ?_
          refine Ops.guard_yes rfl rfl rfl rfl rfl ?_
          refine Ops.quiet (Qt.load_agg rfl (tk rfl) rfl (by repeat (first | exact List.Mem.head _ | apply List.Mem.tail)) (by rfl) (by rfl)) rfl ?_
          refine Ops.guard_yes rfl rfl rfl rfl rfl ?_
          refine Ops.quiet (Qt.load_agg rfl (tk rfl) rfl (by repeat (first | exact List.Mem.head _ | apply List.Mem.tail)) (by rfl) (by rfl)) rfl ?_
          refine Ops.guard_yes rfl rfl rfl rfl rfl ?_
          refine Ops.eff (Ef.call (fok fab_all rfl Tryz.func11 rfl) rfl (spec_same w0 m a' a _ ⟨osl_reads (by repeat (first | exact List.Mem.head _ | apply List.Mem.tail)), osl_reads (by repeat (first | exact List.Mem.head _ | apply List.Mem.tail)), osl_reads (by repeat (first | exact List.Mem.head _ | apply List.Mem.tail))⟩ (by first | exact hm.tail | exact hm.tail.tail | exact hm.tail.tail.tail | exact hm.tail.tail.tail.tail | exact hm.tail.tail.tail.tail.tail | exact hm.tail.tail.tail.tail.tail.tail | exact hm.tail.tail.tail.tail.tail.tail.tail | exact hm.tail.tail.tail.tail.tail.tail.tail.tail))) rfl ?_
          rintro _ c0 ⟨rfl, h0⟩; subst c0
          refine Ops.guard_yes rfl rfl rfl rfl rfl ?_
          refine Ops.quiet (Qt.not rfl) rfl ?_
          refine Ops.quiet (Qt.pick_f rfl rfl rfl) rfl ?_
          refine Ops.quiet (Qt.move rfl) rfl ?_
          refine Ops.guard_yes rfl rfl rfl rfl rfl ?_
          refine Ops.quiet (Qt.move rfl) rfl ?_
          refine Ops.guard_yes rfl rfl rfl rfl rfl ?_
          refine Ops.eff (Ef.call (fok fab_all rfl Tryz.func12 rfl) rfl (sniff_f w0 m hf _ (osl_reads (by repeat (first | exact List.Mem.head _ | apply List.Mem.tail))))) rfl ?_
          rintro _ c0 ⟨rfl, h0⟩; subst c0
          refine Ops.guard_yes rfl rfl rfl rfl rfl ?_
          refine Ops.quiet (Qt.move rfl) rfl ?_
          refine Ops.guard_yes rfl rfl rfl rfl rfl ?_
          refine Ops.quiet (Qt.neq rfl rfl) rfl ?_
          refine Ops.quiet (Qt.pick_f rfl rfl rfl) rfl ?_
          refine Ops.nil ?_
          refine H.then_normal ?_
          refine H.cond_false rfl (by exact bne_self_eq_false _) ?_
          refine H.skip ?_
          refine H.then_normal ?_
          refine H.seq ?_
          refine H.seq ?_
          refine H.region ?_
          refine Ops.quiet (Qt.move rfl) rfl ?_
          refine Ops.quiet (Qt.neq rfl rfl) rfl ?_
          refine Ops.quiet (Qt.move rfl) rfl ?_
          refine Ops.guard rfl rfl rfl rfl (fun g86 => ?_) (fun g86 => ?_)
          · have g86' := g86
            try simp only [decide_eq_true_eq, decide_eq_false_iff_not, beq_iff_eq, beq_eq_false_iff_ne, bne_iff_ne, ne_eq, Bool.not_eq_true', Bool.not_eq_false', bne_eq_false_iff_eq, Bool.not_eq_eq_eq_not, Bool.not_true, Bool.not_false] at g86'
            refine Ops.quiet (Qt.move rfl) rfl ?_
            refine Ops.guard_yes rfl rfl rfl rfl g86 ?_
            refine Ops.quiet (Qt.neq rfl rfl) rfl ?_
            refine Ops.quiet (Qt.pick_t rfl rfl g86) rfl ?_
            refine Ops.nil ?_
            refine H.then_normal ?_
            refine H.cond_true rfl (by exact bne_iff_ne.2 (by omega)) ?_
            refine H.seq ?_
            refine H.region ?_
            refine Ops.eff (Ef.call (fok fab_all rfl Tryz.func6 rfl) rfl (spec_tanswers w0 hG _)) rfl ?_
            rintro _ c0 ⟨rfl, h0⟩; subst c0
            refine Ops.quiet (Qt.move rfl) rfl ?_
            refine Ops.guard_yes rfl rfl rfl rfl rfl ?_
            refine Ops.quiet (Qt.move rfl) rfl ?_
            refine Ops.guard_yes rfl rfl rfl rfl rfl ?_
            refine Ops.quiet (Qt.eql rfl rfl) rfl ?_
            refine Ops.quiet (Qt.pick_t rfl rfl rfl) rfl ?_
            refine Ops.quiet (Qt.move rfl) rfl ?_
            refine Ops.guard_yes rfl rfl rfl rfl rfl ?_
            refine Ops.quiet (Qt.move rfl) rfl ?_
            refine Ops.guard_yes rfl rfl rfl rfl rfl ?_
            refine Ops.quiet (Qt.len_sl (ats := #[]) rfl (tk rfl)) rfl ?_
            refine Ops.guard_yes rfl rfl rfl rfl rfl ?_
            refine Ops.quiet (Qt.eql rfl rfl) rfl ?_
            refine Ops.quiet (Qt.pick_t rfl rfl rfl) rfl ?_
            refine Ops.quiet (Qt.assign rfl) rfl ?_
            refine Ops.nil ?_
            refine H.then_normal ?_
            refine H.ret ?_
            refine H.then_ret ?_
            refine (H.ends rfl (.cons (.tmp rfl) .nil) ?_)
            rfl
          · have g86' := g86
            try simp only [decide_eq_true_eq, decide_eq_false_iff_not, beq_iff_eq, beq_eq_false_iff_ne, bne_iff_ne, ne_eq, Bool.not_eq_true', Bool.not_eq_false', bne_eq_false_iff_eq, Bool.not_eq_eq_eq_not, Bool.not_true, Bool.not_false] at g86'
            exact absurd ho (by omega)
def fmtOf (b : UInt8) : Int := 1 + (b.toNat : Int) % 2
theorem fmtOf_ok (b : UInt8) : fmtOf b = 1 ∨ fmtOf b = 2 := by unfold fmtOf; omega
set_option maxHeartbeats 2000000 in
theorem spec_keeps (w0 : World) (hG : Gp w0) (m : Mg) (a : Ma) (hma : MA m a) (l : Bs) {A : Option Addr} {n c : Nat} (cs : List SProp) (hm : MR w0 cs m a) (hl : Reads w0 cs A n c (l.map u8v)) :
    Spec Tryz.prog w0 4 [m.v a, .slice A n c] cs (fun v _ => v = bol true) := by
  refine Spec.of_body Tryz.func4 rfl Tryz.ntmps4 rfl ?_
  refine H.fact (fun w hw => (hl w hw).facts) fun ⟨l1, l2, l3, l4⟩ => ?_
  simp only [List.length_map] at l1
  refine H.seq ?_
  refine H.region ?_
  refine Ops.eff (Ef.box rfl rfl) rfl ?_
  rintro _ _ ⟨b2, rfl, rfl⟩
  refine Ops.quiet (Qt.assign rfl) rfl ?_
  refine Ops.nil ?_
  refine H.then_normal ?_
  refine H.seq ?_
  refine H.seq ?_
  refine H.region ?_
  refine Ops.quiet (Qt.load_agg rfl (tk rfl) rfl (by repeat (first | exact List.Mem.head _ | apply List.Mem.tail)) (by rfl) (by rfl)) rfl ?_
  refine Ops.eff (Ef.call (fok fab_all rfl Tryz.func5 rfl) rfl (spec_small w0 m a hma _ hm.tail)) rfl ?_
  rintro _ _ ⟨r, rfl, hr, rfl⟩
  refine Ops.quiet (Qt.not rfl) rfl ?_
  refine Ops.quiet (Qt.move rfl) rfl ?_
  refine Ops.guard rfl rfl rfl rfl (fun g14 => ?_) (fun g14 => ?_)
  · have g14' := g14
    try simp only [decide_eq_true_eq, decide_eq_false_iff_not, beq_iff_eq, beq_eq_false_iff_ne, bne_iff_ne, ne_eq, Bool.not_eq_true', Bool.not_eq_false', bne_eq_false_iff_eq, Bool.not_eq_eq_eq_not, Bool.not_true, Bool.not_false] at g14'
    refine Ops.quiet (Qt.load_agg rfl (tk rfl) rfl (by repeat (first | exact List.Mem.head _ | apply List.Mem.tail)) (by rfl) (by rfl)) rfl ?_
    refine Ops.guard_yes rfl rfl rfl rfl g14 ?_
    refine Ops.eff (Ef.call (fok fab_all rfl Tryz.func8 rfl) rfl (spec_rgoodM w0 m a (hr (by simpa using g14)) _ hm.tail)) rfl ?_
    rintro _ c0 ⟨rfl, h0⟩; subst c0
    refine Ops.guard_yes rfl rfl rfl rfl g14 ?_
    refine Ops.quiet (Qt.not rfl) rfl ?_
    refine Ops.quiet (Qt.pick_f rfl rfl g14) rfl ?_
    refine Ops.quiet (Qt.move rfl) rfl ?_
    refine Ops.guard rfl rfl rfl rfl (fun g19 => ?_) (fun g19 => ?_)
    · have g19' := g19
      try simp only [decide_eq_true_eq, decide_eq_false_iff_not, beq_iff_eq, beq_eq_false_iff_ne, bne_iff_ne, ne_eq, Bool.not_eq_true', Bool.not_eq_false', bne_eq_false_iff_eq, Bool.not_eq_eq_eq_not, Bool.not_true, Bool.not_false] at g19'
      refine Ops.quiet (Qt.move rfl) rfl ?_
      refine Ops.guard_yes rfl rfl rfl rfl g19 ?_
      refine Ops.quiet (Qt.len_sl (ats := #[]) rfl (tk rfl)) rfl ?_
      refine Ops.guard_yes rfl rfl rfl rfl g19 ?_
      refine Ops.quiet (Qt.gtr rfl rfl) rfl ?_
      refine Ops.quiet (Qt.pick_f rfl rfl g19) rfl ?_
      refine Ops.nil ?_
      refine H.then_normal ?_
      refine H.cond rfl (fun h23 => ?_) (fun h23 => ?_)
      · try simp only [decide_eq_true_eq, decide_eq_false_iff_not, beq_iff_eq, beq_eq_false_iff_ne, bne_iff_ne, ne_eq, Bool.not_eq_true', Bool.not_eq_false', bne_eq_false_iff_eq, Bool.not_eq_eq_eq_not, Bool.not_true, Bool.not_false] at h23
        refine H.seq ?_
        refine H.region ?_
        refine Ops.eff (Ef.call (fok fab_all rfl Tryz.func6 rfl) rfl (spec_tanswers w0 hG _)) rfl ?_
        rintro _ c0 ⟨rfl, h0⟩; subst c0
        refine Ops.quiet (Qt.assign rfl) rfl ?_
        refine Ops.nil ?_
        refine H.then_normal ?_
        refine H.ret ?_
        refine H.then_ret ?_
        refine (H.ends rfl (.cons (.tmp rfl) .nil) ?_)
        rfl
      · try simp only [decide_eq_true_eq, decide_eq_false_iff_not, beq_iff_eq, beq_eq_false_iff_ne, bne_iff_ne, ne_eq, Bool.not_eq_true', Bool.not_eq_false', bne_eq_false_iff_eq, Bool.not_eq_eq_eq_not, Bool.not_true, Bool.not_false] at h23
        refine H.skip ?_
        refine H.then_normal ?_
        refine H.seq ?_
        have hb : MB m := hr (by simpa using g14)
        have hg : GoodM m := goodM_iff.1 (by simpa using g19)
        refine H.region ?_
        refine Ops.quiet (Qt.load_agg rfl (tk rfl) rfl (by repeat (first | exact List.Mem.head _ | apply List.Mem.tail)) (by rfl) (by rfl)) rfl ?_
        refine Ops.eff (Ef.call (fok fab_all rfl Tryz.func14 rfl) rfl (spec_rbytes w0 m a hb hg _ hm.tail)) rfl ?_
        rintro _ _ ⟨A5, n5, c5, rfl, rfl⟩
        refine Ops.quiet (Qt.assign rfl) rfl ?_
        refine Ops.nil ?_
        refine H.then_normal ?_
        refine H.seq ?_
        refine H.seq ?_
        refine H.fact (fun w hw => (osl_reads (.head _) w hw).facts) fun ⟨q1, q2, q3, q4⟩ => ?_
        simp only [List.length_map] at q1
        subst q1
        refine H.region ?_
        refine Ops.quiet (Qt.assign rfl) rfl ?_
        refine Ops.nil ?_
        refine H.then_normal ?_
        refine H.block ?_
        refine H.loop (X := Nat × Option Addr × Nat × Int) (fun p => [(1, .slice A n c), (2, ptr b2), (5, .slice p.2.1 (encM m p.2.2.2).length p.2.2.1), (6, num p.1)]) (fun p => osl 5 p.2.1 (encM m p.2.2.2).length p.2.2.1 ((encM m p.2.2.2).map u8v) :: blk b2 (m.cells a) 25 :: cs) (fun p => p.1 ≤ n ∧ (p.2.2.2 = 1 ∨ p.2.2.2 = 2)) (fun p => n - p.1) (0, A5, c5, 2) ⟨Nat.zero_le _, .inr rfl⟩ (by repeat (first | exact trivial | refine ⟨rfl, ?_⟩)) (fun w hw => hw) ?_
        rintro ⟨i, A6, c6, f⟩ ⟨hi, hf⟩
        simp only at hi hf
        change H _ _ [(1, .slice A n c), (2, ptr b2), (5, .slice A6 (encM m f).length c6), (6, num (i : Int))] (osl 5 A6 (encM m f).length c6 ((encM m f).map u8v) :: blk b2 (m.cells a) 25 :: cs) _
        refine H.seq ?_
        refine H.seq ?_
        refine H.region ?_
        refine Ops.quiet (Qt.move rfl) rfl ?_
        refine Ops.quiet (Qt.move rfl) rfl ?_
        refine Ops.quiet (Qt.len_sl (ats := #[]) rfl (tk rfl)) rfl ?_
        refine Ops.quiet (Qt.lss rfl rfl) rfl ?_
        refine Ops.nil ?_
        refine H.then_normal ?_
        refine H.cond rfl (fun h30 => ?_) (fun h30 => ?_)
        · try simp only [decide_eq_true_eq, decide_eq_false_iff_not, beq_iff_eq, beq_eq_false_iff_ne, bne_iff_ne, ne_eq, Bool.not_eq_true', Bool.not_eq_false', bne_eq_false_iff_eq, Bool.not_eq_eq_eq_not, Bool.not_true, Bool.not_false] at h30
          refine H.skip ?_
          refine H.then_normal ?_
          refine H.seq ?_
          refine H.block ?_
          refine H.seq ?_
          have hi2 : i < l.length := by omega
          have hg2 := fmtOf_ok (l.getD i 0)
          have hu : (0 : Int) ≤ ((l.getD (i : Int).toNat 0).toNat : Int) ∧ ((l.getD (i : Int).toNat 0).toNat : Int) ≤ 255 := by have := (l.getD (i : Int).toNat 0).toNat_lt; omega
          refine H.region ?_
          refine Ops.quiet (Qt.move rfl) rfl ?_
          refine Ops.quiet (Qt.move rfl) rfl ?_
          refine Ops.quiet (Qt.move rfl) rfl ?_
          refine Ops.quiet (Qt.indexAddr rfl rfl (tk rfl) (tk rfl) rfl (by repeat (first | assumption | exact Reads.of_head | apply Reads.tail)) (by omega) (by omega)) rfl ?_
          refine Ops.quiet (Qt.load_map (0 : UInt8) rfl (tk rfl) rfl (by repeat (first | assumption | exact Reads.of_head | apply Reads.tail)) (by omega)) rfl ?_
          refine Ops.quiet (Qt.remP rfl rfl (by omega) (by omega)) rfl ?_
          refine Ops.quiet (Qt.conv_k rfl (tk rfl) (tk rfl) (by first | exact IntWalk.i64_in _ (by omega) | exact IntWalk.u8_in _ (by omega) | exact IntWalk.u64_in _ (by omega) | exact IntWalk.u32_in _ (by omega) | exact IntWalk.u16_in _ (by omega))) rfl ?_
          refine Ops.quiet (Qt.addk rfl rfl (by first | exact IntWalk.i64_in _ (by omega) | exact IntWalk.u8_in _ (by omega) | exact IntWalk.u64_in _ (by omega) | exact IntWalk.u32_in _ (by omega) | exact IntWalk.u16_in _ (by omega))) rfl ?_
          refine Ops.eff (Ef.call (fok fab_all rfl Tryz.func10 rfl) rfl (spec_turn w0 hG m hb hg hf hg2 _ (osl_reads (.head _)))) rfl ?_
          rintro _ _ ⟨A7, c7, rfl, rfl⟩
          refine Ops.quiet (Qt.move rfl) rfl ?_
          refine Ops.quiet (Qt.extract rfl rfl) rfl ?_
          refine Ops.quiet (Qt.extract rfl rfl) rfl ?_
          refine Ops.quiet (Qt.assign rfl) rfl ?_
          refine Ops.quiet (Qt.assign rfl) rfl ?_
          refine Ops.nil ?_
          refine H.then_normal ?_
          refine H.seq ?_
          refine H.seq ?_
          refine H.drawn_all 12 mixed (by kernel_rfl) ?_
          refine Hd.quiet 0 (by kernel_rfl) rfl rfl (by kernel_rfl) rfl (Qt.move rfl) ?_
          refine Hd.quiet 1 (by kernel_rfl) rfl rfl (by kernel_rfl) rfl (Qt.neq rfl rfl) ?_
          refine Hd.quiet 2 (by kernel_rfl) rfl rfl (by kernel_rfl) rfl (Qt.move rfl) ?_
          refine Hd.guard_yes 3 (by kernel_rfl) rfl rfl (by kernel_rfl) rfl rfl rfl rfl rfl (Qt.move rfl) ?_
          refine Hd.guard_yes 5 (by kernel_rfl) rfl rfl (by kernel_rfl) rfl rfl rfl rfl rfl (Qt.move rfl) ?_
          refine Hd.guard_yes 6 (by kernel_rfl) rfl rfl (by kernel_rfl) rfl rfl rfl rfl rfl (Qt.move rfl) ?_
          refine Hd.guard_yes 7 (by kernel_rfl) rfl rfl (by kernel_rfl) rfl rfl rfl rfl rfl (Qt.indexAddr rfl rfl (tk rfl) (tk rfl) rfl (by repeat (first | assumption | exact Reads.of_head | apply Reads.tail)) (by omega) (by omega)) ?_
          refine Hd.guard_yes 8 (by kernel_rfl) rfl rfl (by kernel_rfl) rfl rfl rfl rfl rfl (Qt.load_map (0 : UInt8) rfl (tk rfl) rfl (by repeat (first | assumption | exact Reads.of_head | apply Reads.tail)) (by omega)) ?_
          refine Hd.guard_yes 9 (by kernel_rfl) rfl rfl (by kernel_rfl) rfl rfl rfl rfl rfl (Qt.remP rfl rfl (by omega) (by omega)) ?_
          refine Hd.guard_yes 10 (by kernel_rfl) rfl rfl (by kernel_rfl) rfl rfl rfl rfl rfl (Qt.conv_k rfl (tk rfl) (tk rfl) (by first | exact IntWalk.i64_in _ (by omega) | exact IntWalk.u8_in _ (by omega) | exact IntWalk.u64_in _ (by omega) | exact IntWalk.u32_in _ (by omega) | exact IntWalk.u16_in _ (by omega))) ?_
          refine Hd.guard_yes 11 (by kernel_rfl) rfl rfl (by kernel_rfl) rfl rfl rfl rfl rfl (Qt.addk rfl rfl (by first | exact IntWalk.i64_in _ (by omega) | exact IntWalk.u8_in _ (by omega) | exact IntWalk.u64_in _ (by omega) | exact IntWalk.u32_in _ (by omega) | exact IntWalk.u16_in _ (by omega))) ?_
          refine Hd.eff_g 4 (by intro w hw; first | exact hw | exact Own.sub (by repeat (first | exact List.Sublist.refl _ | exact List.nil_sublist _ | apply List.Sublist.cons_cons | apply List.Sublist.cons)) hw) rfl rfl (by kernel_rfl) rfl rfl rfl rfl rfl (Ef.call (fok fab_all rfl Tryz.func12 rfl) rfl (sniff_f w0 m hg2 _ (osl_reads (.head _)))) ?_
          rintro _ c0 ⟨rfl, h0⟩; subst c0
          refine Hd.tail (by intro w hw; first | exact hw | exact Own.sub (by repeat (first | exact List.Sublist.refl _ | exact List.nil_sublist _ | apply List.Sublist.cons_cons | apply List.Sublist.cons)) hw) (by kernel_rfl) rfl ?_
          refine Ops.guard_yes rfl rfl rfl rfl rfl ?_
          refine Ops.quiet (Qt.neq rfl rfl) rfl ?_
          refine Ops.quiet (Qt.pick_f rfl rfl rfl) rfl ?_
          refine Ops.nil ?_
          refine H.then_normal ?_
          refine H.cond_false rfl (by exact bne_self_eq_false _) ?_
          refine H.skip ?_
          refine H.then_normal ?_
          refine H.region ?_
          refine Ops.quiet (Qt.move rfl) rfl ?_
          refine Ops.quiet (Qt.assign rfl) rfl ?_
          refine Ops.nil ?_
          refine H.blk_normal ?_
          refine H.then_normal ?_
          refine H.region ?_
          refine Ops.quiet (Qt.move rfl) rfl ?_
          refine Ops.quiet (Qt.addk rfl rfl (by first | exact IntWalk.i64_in _ (by omega) | exact IntWalk.u8_in _ (by omega) | exact IntWalk.u64_in _ (by omega) | exact IntWalk.u32_in _ (by omega) | exact IntWalk.u16_in _ (by omega))) rfl ?_
          refine Ops.quiet (Qt.assign rfl) rfl ?_
          refine Ops.nil ?_
          refine H.then_normal ?_
          refine H.round (i + 1, A7, c7, fmtOf (l.getD i 0)) ⟨by show i + 1 ≤ n; omega, hg2⟩ (by simp only []; omega) (by repeat (first | exact trivial | refine ⟨rfl, ?_⟩)) (fun w hw => hw.sub (by repeat (first | exact List.Sublist.refl _ | exact List.nil_sublist _ | apply List.Sublist.cons_cons | apply List.Sublist.cons)))
        · try simp only [decide_eq_true_eq, decide_eq_false_iff_not, beq_iff_eq, beq_eq_false_iff_ne, bne_iff_ne, ne_eq, Bool.not_eq_true', Bool.not_eq_false', bne_eq_false_iff_eq, Bool.not_eq_eq_eq_not, Bool.not_true, Bool.not_false] at h30
          refine H.exit ?_
          refine H.then_exit ?_
          refine H.then_exit ?_
          refine H.blk_hit ?_
          refine H.then_normal ?_
          refine H.seq ?_
          refine H.region ?_
          refine Ops.quiet (Qt.move rfl) rfl ?_
          refine Ops.eff (Ef.call (fok fab_all rfl Tryz.func9 rfl) rfl (spec_tdecode w0 hG m hb hg hf _ (osl_reads (.head _)))) rfl ?_
          rintro _ _ ⟨a', rfl, rfl⟩
          refine Ops.quiet (Qt.move rfl) rfl ?_
          refine Ops.quiet (Qt.extract rfl rfl) rfl ?_
          refine Ops.quiet (Qt.extract rfl rfl) rfl ?_
          refine Ops.eff (Ef.alloc (zk rfl)) rfl ?_
          rintro _ _ ⟨b9, rfl, rfl⟩
          refine Ops.eff (Ef.store rfl rfl (tk rfl) rfl rfl (by repeat (first | exact ones_nil | refine ones_cons rfl ?_)) (by repeat (first | exact Upd.head | apply Upd.tail)) (by rfl)) rfl ?_
          rintro _ _ rfl
          refine Ops.quiet (Qt.assign rfl) rfl ?_
          refine Ops.nil ?_
          refine H.then_normal ?_
          refine H.seq ?_
          refine H.region ?_
          refine Ops.eff (Ef.call (fok fab_all rfl Tryz.func6 rfl) rfl (spec_tanswers w0 hG _)) rfl ?_
          rintro _ c0 ⟨rfl, h0⟩; subst c0
          refine Ops.quiet (Qt.move rfl) rfl ?_
          refine Ops.guard_yes rfl rfl rfl rfl rfl ?_
          refine Ops.quiet (Qt.move rfl) rfl ?_
          refine Ops.guard_yes rfl rfl rfl rfl rfl ?_
          refine Ops.quiet (Qt.eql rfl rfl) rfl ?_
          refine Ops.quiet (Qt.pick_t rfl rfl rfl) rfl ?_
          refine Ops.quiet (Qt.move rfl) rfl ?_
          refine Ops.guard_yes rfl rfl rfl rfl rfl ?_
          refine Ops.quiet (Qt.load_agg rfl (tk rfl) rfl (by repeat (first | exact List.Mem.head _ | apply List.Mem.tail)) (by rfl) (by rfl)) rfl ?_
          refine Ops.guard_yes rfl rfl rfl rfl rfl ?_
          refine Ops.quiet (Qt.load_agg rfl (tk rfl) rfl (by repeat (first | exact List.Mem.head _ | apply List.Mem.tail)) (by rfl) (by rfl)) rfl ?_
          refine Ops.guard_yes rfl rfl rfl rfl rfl ?_
          refine Ops.eff (Ef.call (fok fab_all rfl Tryz.func11 rfl) rfl (spec_same w0 m a' a _ ⟨osl_reads (by repeat (first | exact List.Mem.head _ | apply List.Mem.tail)), osl_reads (by repeat (first | exact List.Mem.head _ | apply List.Mem.tail)), osl_reads (by repeat (first | exact List.Mem.head _ | apply List.Mem.tail))⟩ (by repeat (first | exact hm | apply MR.tail)))) rfl ?_
          rintro _ c0 ⟨rfl, h0⟩; subst c0
          refine Ops.quiet (Qt.pick_t rfl rfl rfl) rfl ?_
          refine Ops.quiet (Qt.assign rfl) rfl ?_
          refine Ops.nil ?_
          refine H.then_normal ?_
          refine H.ret ?_
          refine (H.ends rfl (.cons (.tmp rfl) .nil) ?_)
          rfl
    · have g19' := g19
      try simp only [decide_eq_true_eq, decide_eq_false_iff_not, beq_iff_eq, beq_eq_false_iff_ne, bne_iff_ne, ne_eq, Bool.not_eq_true', Bool.not_eq_false', bne_eq_false_iff_eq, Bool.not_eq_eq_eq_not, Bool.not_true, Bool.not_false] at g19'
      refine Ops.guard_no rfl rfl rfl rfl g19 ?_
      refine Ops.guard_no rfl rfl rfl rfl g19 ?_
      refine Ops.quiet (Qt.pick_t rfl rfl g19) rfl ?_
      refine Ops.nil ?_
      refine H.then_normal ?_
      refine H.cond_true rfl (by rfl) ?_
      refine H.seq ?_
      refine H.region ?_
      refine Ops.eff (Ef.call (fok fab_all rfl Tryz.func6 rfl) rfl (spec_tanswers w0 hG _)) rfl ?_
      rintro _ c0 ⟨rfl, h0⟩; subst c0
      refine Ops.quiet (Qt.assign rfl) rfl ?_
      refine Ops.nil ?_
      refine H.then_normal ?_
      refine H.ret ?_
      refine H.then_ret ?_
      refine (H.ends rfl (.cons (.tmp rfl) .nil) ?_)
      rfl
  · have g14' := g14
    try simp only [decide_eq_true_eq, decide_eq_false_iff_not, beq_iff_eq, beq_eq_false_iff_ne, bne_iff_ne, ne_eq, Bool.not_eq_true', Bool.not_eq_false', bne_eq_false_iff_eq, Bool.not_eq_eq_eq_not, Bool.not_true, Bool.not_false] at g14'
    refine Ops.guard_no rfl rfl rfl rfl g14 ?_
    refine Ops.guard_no rfl rfl rfl rfl g14 ?_
    refine Ops.quiet (Qt.pick_t rfl rfl g14) rfl ?_
    refine Ops.quiet (Qt.move rfl) rfl ?_
    refine Ops.guard_no rfl rfl rfl rfl rfl ?_
    refine Ops.guard_no rfl rfl rfl rfl rfl ?_
    refine Ops.guard_no rfl rfl rfl rfl rfl ?_
    refine Ops.quiet (Qt.pick_t rfl rfl rfl) rfl ?_
    refine Ops.nil ?_
    refine H.then_normal ?_
    refine H.cond_true rfl (by rfl) ?_
    refine H.seq ?_
    refine H.region ?_
    refine Ops.eff (Ef.call (fok fab_all rfl Tryz.func6 rfl) rfl (spec_tanswers w0 hG _)) rfl ?_
    rintro _ c0 ⟨rfl, h0⟩; subst c0
    refine Ops.quiet (Qt.assign rfl) rfl ?_
    refine Ops.nil ?_
    refine H.then_normal ?_
    refine H.ret ?_
    refine H.then_ret ?_
    refine (H.ends rfl (.cons (.tmp rfl) .nil) ?_)
    rfl
end Go.Proofs.YtbglphpinhjfeaaGreatDoor
