/- Messages in either format: the program's package turn, where bytes are a good message's. -/
import Derived.Test.YtbglphpinhjfeaaGreatDoorBdc
namespace Go.Proofs.YtbglphpinhjfeaaGreatDoor
open Go Go.RowKit
set_option maxRecDepth 100000
set_option linter.unusedVariables false
set_option linter.unusedSimpArgs false
attribute [local irreducible] Go.wpList Go.Code.wp Go.Exit.then Go.Exit.inBlock Go.Exit.noGoto Ends blk osl oblk LoopI Own Spec
theorem spec_rsame (w0 : World) (x y : Bs) {A B : Option Addr} {n c k q : Nat} (cs : List SProp) (hx : Reads w0 cs A n c (x.map u8v)) (hy : Reads w0 cs B k q (y.map u8v)) :
    Spec Tryz.prog w0 15 [.slice A n c, .slice B k q] cs (fun v cs' => v = bol (x == y) ∧ cs' = cs) := by
  refine Spec.of_body Tryz.func15 rfl Tryz.ntmps15 rfl ?_
  refine H.fact (fun w hw => (hx w hw).facts) fun ⟨xl1, xl2, xl3, xl4⟩ => ?_
  refine H.fact (fun w hw => (hy w hw).facts) fun ⟨yl1, yl2, yl3, yl4⟩ => ?_
  simp only [List.length_map] at xl1 yl1
  refine H.seq ?_
  refine H.region ?_
  refine Ops.quiet (Qt.assign rfl) rfl ?_
  refine Ops.nil ?_
  refine H.then_normal ?_
  refine H.seq ?_
  refine H.seq ?_
  refine H.region ?_
  refine Ops.quiet (Qt.move rfl) rfl ?_
  refine Ops.quiet (Qt.len_sl (ats := #[]) rfl (tk rfl)) rfl ?_
  refine Ops.quiet (Qt.move rfl) rfl ?_
  refine Ops.quiet (Qt.len_sl (ats := #[]) rfl (tk rfl)) rfl ?_
  refine Ops.quiet (Qt.neq rfl rfl) rfl ?_
  refine Ops.nil ?_
  refine H.then_normal ?_
  refine H.cond rfl (fun h10 => ?_) (fun h10 => ?_)
  · try simp only [decide_eq_true_eq, decide_eq_false_iff_not, beq_iff_eq, beq_eq_false_iff_ne, bne_iff_ne, ne_eq, Bool.not_eq_true', Bool.not_eq_false', bne_eq_false_iff_eq, Bool.not_eq_eq_eq_not, Bool.not_true, Bool.not_false] at h10
    refine H.seq ?_
    refine H.region ?_
    refine Ops.quiet (Qt.assign rfl) rfl ?_
    refine Ops.nil ?_
    refine H.then_normal ?_
    refine H.ret ?_
    refine H.then_ret ?_
    refine (H.ends rfl (.cons (.tmp rfl) .nil) ?_)
    refine ⟨congrArg bol ?_, rfl⟩
    symm
    rw [beq_eq_false_iff_ne]
    intro h
    rw [h] at xl1
    omega
  · try simp only [decide_eq_true_eq, decide_eq_false_iff_not, beq_iff_eq, beq_eq_false_iff_ne, bne_iff_ne, ne_eq, Bool.not_eq_true', Bool.not_eq_false', bne_eq_false_iff_eq, Bool.not_eq_eq_eq_not, Bool.not_true, Bool.not_false] at h10
    refine H.skip ?_
    refine H.then_normal ?_
    refine H.seq ?_
    refine H.seq ?_
    refine H.region ?_
    refine Ops.quiet (Qt.assign rfl) rfl ?_
    refine Ops.nil ?_
    refine H.then_normal ?_
    refine H.block ?_
    refine H.loop (X := Nat) (fun i => [(0, .slice A n c), (1, .slice B k q), (5, num i)]) (fun i => cs) (fun i => i ≤ n ∧ x.take i = y.take i) (fun i => n - i) 0 ⟨Nat.zero_le _, rfl⟩ (by repeat (first | exact trivial | refine ⟨rfl, ?_⟩)) (fun w hw => hw) ?_
    intro i ⟨hi, ht⟩
    refine H.seq ?_
    refine H.seq ?_
    refine H.region ?_
    refine Ops.quiet (Qt.move rfl) rfl ?_
    refine Ops.quiet (Qt.move rfl) rfl ?_
    refine Ops.quiet (Qt.len_sl (ats := #[]) rfl (tk rfl)) rfl ?_
    refine Ops.quiet (Qt.lss rfl rfl) rfl ?_
    refine Ops.nil ?_
    refine H.then_normal ?_
    refine H.cond rfl (fun h14 => ?_) (fun h14 => ?_)
    · try simp only [decide_eq_true_eq, decide_eq_false_iff_not, beq_iff_eq, beq_eq_false_iff_ne, bne_iff_ne, ne_eq, Bool.not_eq_true', Bool.not_eq_false', bne_eq_false_iff_eq, Bool.not_eq_eq_eq_not, Bool.not_true, Bool.not_false] at h14
      refine H.skip ?_
      refine H.then_normal ?_
      refine H.seq ?_
      refine H.block ?_
      refine H.seq ?_
      have hi2 : i < x.length := by omega
      have hi3 : i < y.length := by omega
      refine H.drawn_all 8 mixed (by kernel_rfl) ?_
      refine Hd.quiet 0 (by kernel_rfl) rfl rfl (by kernel_rfl) rfl (Qt.move rfl) ?_
      refine Hd.quiet 1 (by kernel_rfl) rfl rfl (by kernel_rfl) rfl (Qt.move rfl) ?_
      refine Hd.quiet 2 (by kernel_rfl) rfl rfl (by kernel_rfl) rfl (Qt.indexAddr rfl rfl (tk rfl) (tk rfl) rfl hx (by omega) (by omega)) ?_
      refine Hd.quiet 3 (by kernel_rfl) rfl rfl (by kernel_rfl) rfl (Qt.load_map (0 : UInt8) rfl (tk rfl) rfl hx (by omega)) ?_
      refine Hd.quiet 4 (by kernel_rfl) rfl rfl (by kernel_rfl) rfl (Qt.move rfl) ?_
      refine Hd.quiet 5 (by kernel_rfl) rfl rfl (by kernel_rfl) rfl (Qt.move rfl) ?_
      refine Hd.quiet 6 (by kernel_rfl) rfl rfl (by kernel_rfl) rfl (Qt.indexAddr rfl rfl (tk rfl) (tk rfl) rfl hy (by omega) (by omega)) ?_
      refine Hd.quiet 7 (by kernel_rfl) rfl rfl (by kernel_rfl) rfl (Qt.load_map (0 : UInt8) rfl (tk rfl) rfl hy (by omega)) ?_
      refine Hd.tail (by intro w hw; first | exact hw | exact Own.sub (by repeat (first | exact List.Sublist.refl _ | exact List.nil_sublist _ | apply List.Sublist.cons_cons | apply List.Sublist.cons)) hw) (by kernel_rfl) rfl ?_
      refine Ops.quiet (Qt.neq rfl rfl) rfl ?_
      refine Ops.nil ?_
      refine H.then_normal ?_
      refine H.cond rfl (fun h25 => ?_) (fun h25 => ?_)
      · try simp only [decide_eq_true_eq, decide_eq_false_iff_not, beq_iff_eq, beq_eq_false_iff_ne, bne_iff_ne, ne_eq, Bool.not_eq_true', Bool.not_eq_false', bne_eq_false_iff_eq, Bool.not_eq_eq_eq_not, Bool.not_true, Bool.not_false] at h25
        refine H.seq ?_
        refine H.region ?_
        refine Ops.quiet (Qt.assign rfl) rfl ?_
        refine Ops.nil ?_
        refine H.then_normal ?_
        refine H.ret ?_
        refine H.blk_ret ?_
        refine H.then_ret ?_
        refine H.then_ret ?_
        refine H.blk_ret ?_
        refine H.then_ret ?_
        refine (H.ends rfl (.cons (.tmp rfl) .nil) ?_)
        refine ⟨congrArg bol ?_, rfl⟩
        symm
        rw [beq_eq_false_iff_ne]
        intro h
        rw [h] at h25
        simp at h25
      · try simp only [decide_eq_true_eq, decide_eq_false_iff_not, beq_iff_eq, beq_eq_false_iff_ne, bne_iff_ne, ne_eq, Bool.not_eq_true', Bool.not_eq_false', bne_eq_false_iff_eq, Bool.not_eq_eq_eq_not, Bool.not_true, Bool.not_false] at h25
        refine H.skip ?_
        refine H.blk_normal ?_
        refine H.then_normal ?_
        refine H.region ?_
        refine Ops.quiet (Qt.move rfl) rfl ?_
        refine Ops.quiet (Qt.addk rfl rfl (by first | exact IntWalk.i64_in _ (by omega) | exact IntWalk.u8_in _ (by omega) | exact IntWalk.u64_in _ (by omega) | exact IntWalk.u32_in _ (by omega) | exact IntWalk.u16_in _ (by omega))) rfl ?_
        refine Ops.quiet (Qt.assign rfl) rfl ?_
        refine Ops.nil ?_
        refine H.then_normal ?_
        refine H.round (i + 1) ⟨by omega, ?_⟩ (by omega) (by repeat (first | exact trivial | refine ⟨rfl, ?_⟩)) (fun w hw => hw)
        have h26 : x.getD i 0 = y.getD i 0 := u8_eq (by simpa using h25)
        have h27 : x[i] = y[i] := by simpa [List.getD_eq_getElem?_getD, hi2, hi3] using h26
        rw [List.take_succ_eq_append_getElem hi2, List.take_succ_eq_append_getElem hi3, ht, h27]
    · try simp only [decide_eq_true_eq, decide_eq_false_iff_not, beq_iff_eq, beq_eq_false_iff_ne, bne_iff_ne, ne_eq, Bool.not_eq_true', Bool.not_eq_false', bne_eq_false_iff_eq, Bool.not_eq_eq_eq_not, Bool.not_true, Bool.not_false] at h14
      refine H.exit ?_
      refine H.then_exit ?_
      refine H.then_exit ?_
      refine H.blk_hit ?_
      refine H.then_normal ?_
      refine H.seq ?_
      refine H.region ?_
      refine Ops.quiet (Qt.assign rfl) rfl ?_
      refine Ops.nil ?_
      refine H.then_normal ?_
      refine H.ret ?_
      refine (H.ends rfl (.cons (.tmp rfl) .nil) ?_)
      refine ⟨congrArg bol ?_, rfl⟩
      symm
      rw [List.take_of_length_le (by omega), List.take_of_length_le (by omega)] at ht
      rw [ht]
      exact beq_self_eq_true _
/-- A message in a format: 1 as text, 2 as bytes. -/
def encM (m : Mg) (f : Int) : Bs := if f = 1 then textM m else bytesM m
def sniffV (l : Bs) : Int := if l = [] then 0 else if (l.getD 0 0).toNat = 2 then 2 else if (l.getD 0 0).toNat = 105 then 1 else 0
theorem sniff_enc (m : Mg) {f : Int} (hf : f = 1 ∨ f = 2) : sniffV (encM m f) = f := by
  rcases hf with rfl | rfl
  · obtain ⟨r, hr⟩ : ∃ r, textM m = 105 :: r := ⟨_, rfl⟩
    simp [encM, sniffV, hr]
  · obtain ⟨r, hr⟩ : ∃ r, bytesM m = 2 :: r := ⟨_, rfl⟩
    simp [encM, sniffV, hr]
theorem spec_sniff (w0 : World) (l : Bs) {A : Option Addr} {n c : Nat} (cs : List SProp) (hr : Reads w0 cs A n c (l.map u8v)) :
    Spec Tryz.prog w0 12 [.slice A n c] cs (fun v cs' => v = num (sniffV l) ∧ cs' = cs) := by
  refine Spec.of_body Tryz.func12 rfl Tryz.ntmps12 rfl ?_
  refine H.fact (fun w hw => (hr w hw).facts) fun ⟨l1, l2, l3, l4⟩ => ?_
  simp only [List.length_map] at l1
  refine H.seq ?_
  refine H.region ?_
  refine Ops.quiet (Qt.assign rfl) rfl ?_
  refine Ops.nil ?_
  refine H.then_normal ?_
  refine H.seq ?_
  refine H.block ?_
  refine H.seq ?_
  refine H.region ?_
  refine Ops.quiet (Qt.move rfl) rfl ?_
  refine Ops.quiet (Qt.len_sl (ats := #[]) rfl (tk rfl)) rfl ?_
  refine Ops.quiet (Qt.eql rfl rfl) rfl ?_
  refine Ops.quiet (Qt.assign rfl) rfl ?_
  refine Ops.nil ?_
  refine H.then_normal ?_
  refine H.cond rfl (fun h3 => ?_) (fun h3 => ?_)
  · try simp only [decide_eq_true_eq, decide_eq_false_iff_not, beq_iff_eq, beq_eq_false_iff_ne, bne_iff_ne, ne_eq, Bool.not_eq_true', Bool.not_eq_false', bne_eq_false_iff_eq, Bool.not_eq_eq_eq_not, Bool.not_true, Bool.not_false] at h3
    refine H.seq ?_
    refine H.region ?_
    refine Ops.quiet (Qt.assign rfl) rfl ?_
    refine Ops.nil ?_
    refine H.then_normal ?_
    refine H.ret ?_
    refine H.blk_ret ?_
    refine H.then_ret ?_
    refine (H.ends rfl (.cons (.tmp rfl) .nil) ?_)
    have : l = [] := List.eq_nil_of_length_eq_zero (by omega)
    exact ⟨by rw [this]; rfl, rfl⟩
  · try simp only [decide_eq_true_eq, decide_eq_false_iff_not, beq_iff_eq, beq_eq_false_iff_ne, bne_iff_ne, ne_eq, Bool.not_eq_true', Bool.not_eq_false', bne_eq_false_iff_eq, Bool.not_eq_eq_eq_not, Bool.not_true, Bool.not_false] at h3
    refine H.seq ?_
    have hn0 : 0 < l.length := by omega
    have hne : l ≠ [] := List.length_pos_iff.1 hn0
    refine H.region ?_
    refine Ops.quiet (Qt.move rfl) rfl ?_
    refine Ops.quiet (Qt.indexAddr rfl rfl (tk rfl) (tk rfl) rfl (by repeat (first | assumption | exact Reads.of_head | apply Reads.tail)) (by omega) (by omega)) rfl ?_
    refine Ops.quiet (Qt.load_map (0 : UInt8) rfl (tk rfl) rfl (by repeat (first | assumption | exact Reads.of_head | apply Reads.tail)) (by omega)) rfl ?_
    refine Ops.quiet (Qt.eql rfl rfl) rfl ?_
    refine Ops.quiet (Qt.assign rfl) rfl ?_
    refine Ops.nil ?_
    refine H.then_normal ?_
    refine H.cond rfl (fun h7 => ?_) (fun h7 => ?_)
    · try simp only [decide_eq_true_eq, decide_eq_false_iff_not, beq_iff_eq, beq_eq_false_iff_ne, bne_iff_ne, ne_eq, Bool.not_eq_true', Bool.not_eq_false', bne_eq_false_iff_eq, Bool.not_eq_eq_eq_not, Bool.not_true, Bool.not_false] at h7
      refine H.seq ?_
      refine H.region ?_
      refine Ops.quiet (Qt.assign rfl) rfl ?_
      refine Ops.nil ?_
      refine H.then_normal ?_
      refine H.ret ?_
      refine H.blk_ret ?_
      refine H.then_ret ?_
      refine (H.ends rfl (.cons (.tmp rfl) .nil) ?_)
      have h8 : (l.getD 0 0).toNat = 2 := by have : ((l.getD 0 0).toNat : Int) = 2 := h7; omega
      exact ⟨by rw [sniffV, if_neg hne, if_pos h8]; rfl, rfl⟩
    · try simp only [decide_eq_true_eq, decide_eq_false_iff_not, beq_iff_eq, beq_eq_false_iff_ne, bne_iff_ne, ne_eq, Bool.not_eq_true', Bool.not_eq_false', bne_eq_false_iff_eq, Bool.not_eq_eq_eq_not, Bool.not_true, Bool.not_false] at h7
      refine H.seq ?_
      refine H.region ?_
      refine Ops.quiet (Qt.move rfl) rfl ?_
      refine Ops.quiet (Qt.indexAddr rfl rfl (tk rfl) (tk rfl) rfl (by repeat (first | assumption | exact Reads.of_head | apply Reads.tail)) (by omega) (by omega)) rfl ?_
      refine Ops.quiet (Qt.load_map (0 : UInt8) rfl (tk rfl) rfl (by repeat (first | assumption | exact Reads.of_head | apply Reads.tail)) (by omega)) rfl ?_
      refine Ops.quiet (Qt.eql rfl rfl) rfl ?_
      refine Ops.quiet (Qt.assign rfl) rfl ?_
      refine Ops.nil ?_
      refine H.then_normal ?_
      refine H.cond rfl (fun h12 => ?_) (fun h12 => ?_)
      · try simp only [decide_eq_true_eq, decide_eq_false_iff_not, beq_iff_eq, beq_eq_false_iff_ne, bne_iff_ne, ne_eq, Bool.not_eq_true', Bool.not_eq_false', bne_eq_false_iff_eq, Bool.not_eq_eq_eq_not, Bool.not_true, Bool.not_false] at h12
        refine H.seq ?_
        refine H.region ?_
        refine Ops.quiet (Qt.assign rfl) rfl ?_
        refine Ops.nil ?_
        refine H.then_normal ?_
        refine H.ret ?_
        refine H.blk_ret ?_
        refine H.then_ret ?_
        refine (H.ends rfl (.cons (.tmp rfl) .nil) ?_)
        have h8 : ¬ (l.getD 0 0).toNat = 2 := by have : ¬ ((l.getD 0 0).toNat : Int) = 2 := h7; omega
        have h13 : (l.getD 0 0).toNat = 105 := by have : ((l.getD 0 0).toNat : Int) = 105 := h12; omega
        exact ⟨by rw [sniffV, if_neg hne, if_neg h8, if_pos h13]; rfl, rfl⟩
      · try simp only [decide_eq_true_eq, decide_eq_false_iff_not, beq_iff_eq, beq_eq_false_iff_ne, bne_iff_ne, ne_eq, Bool.not_eq_true', Bool.not_eq_false', bne_eq_false_iff_eq, Bool.not_eq_eq_eq_not, Bool.not_true, Bool.not_false] at h12
        refine H.skip ?_
        refine H.blk_normal ?_
        refine H.then_normal ?_
        refine H.seq ?_
        refine H.region ?_
        refine Ops.quiet (Qt.assign rfl) rfl ?_
        refine Ops.nil ?_
        refine H.then_normal ?_
        refine H.ret ?_
        refine (H.ends rfl (.cons (.tmp rfl) .nil) ?_)
        have h8 : ¬ (l.getD 0 0).toNat = 2 := by have : ¬ ((l.getD 0 0).toNat : Int) = 2 := h7; omega
        have h13 : ¬ (l.getD 0 0).toNat = 105 := by have : ¬ ((l.getD 0 0).toNat : Int) = 105 := h12; omega
        exact ⟨by rw [sniffV, if_neg hne, if_neg h8, if_neg h13]; rfl, rfl⟩
theorem spec_tencode (w0 : World) (hG : Gp w0) (m : Mg) (a : Ma) (hb : MB m) (hg : GoodM m) {f : Int} (hf : f = 1 ∨ f = 2) (cs : List SProp) (hm : MR w0 cs m a) :
    Spec Tryz.prog w0 7 [m.v a, num f] cs (fun v cs' => ∃ A c, v = .tuple #[.slice A (encM m f).length c, num 0] ∧ cs' = osl 5 A (encM m f).length c ((encM m f).map u8v) :: cs) := by
  refine Spec.of_body Tryz.func7 rfl Tryz.ntmps7 rfl ?_
  refine H.seq ?_
  refine H.region ?_
  refine Ops.eff (Ef.box rfl rfl) rfl ?_
  rintro _ _ ⟨b2, rfl, rfl⟩
  refine Ops.quiet (Qt.assign rfl) rfl ?_
  refine Ops.quiet (Qt.assign rfl) rfl ?_
  refine Ops.nil ?_
  refine H.then_normal ?_
  refine H.seq ?_
  refine H.seq ?_
  refine H.region ?_
  refine Ops.quiet (Qt.move rfl) rfl ?_
  refine Ops.nil ?_
  refine H.then_normal ?_
  refine H.block ?_
  refine H.seq ?_
  refine H.region ?_
  refine Ops.quiet (Qt.eql rfl rfl) rfl ?_
  refine Ops.quiet (Qt.assign rfl) rfl ?_
  refine Ops.nil ?_
  refine H.then_normal ?_
  refine H.cond rfl (fun h7 => ?_) (fun h7 => ?_)
  · try simp only [decide_eq_true_eq, decide_eq_false_iff_not, beq_iff_eq, beq_eq_false_iff_ne, bne_iff_ne, ne_eq, Bool.not_eq_true', Bool.not_eq_false', bne_eq_false_iff_eq, Bool.not_eq_eq_eq_not, Bool.not_true, Bool.not_false] at h7
    refine H.seq ?_
    refine H.region ?_
    refine Ops.quiet (Qt.load_agg rfl (tk rfl) rfl (by repeat (first | exact List.Mem.head _ | apply List.Mem.tail)) (by rfl) (by rfl)) rfl ?_
    refine Ops.eff (Ef.call (fok fab_all rfl Tryz.func16 rfl) rfl (spec_eencode w0 hG m a hb hg _ hm.tail)) rfl ?_
    rintro _ _ ⟨A, c, rfl, rfl⟩
    refine Ops.quiet (Qt.extract rfl rfl) rfl ?_
    refine Ops.quiet (Qt.extract rfl rfl) rfl ?_
    refine Ops.quiet (Qt.assign rfl) rfl ?_
    refine Ops.quiet (Qt.assign rfl) rfl ?_
    refine Ops.nil ?_
    refine H.then_normal ?_
    refine H.ret ?_
    refine H.blk_ret ?_
    refine H.then_ret ?_
    have e : encM m f = textM m := if_pos h7
    rw [e]
    refine (H.ends_to (cs' := osl 5 A (textM m).length c ((textM m).map u8v) :: cs) rfl (.cons (.tmp rfl) (.cons (.tmp rfl) .nil)) (fun w hw => ?_) ?_)
    · exact hw.sub (by repeat (first | exact List.Sublist.refl _ | exact List.nil_sublist _ | apply List.Sublist.cons_cons | apply List.Sublist.cons))
    · exact ⟨A, c, rfl, rfl⟩
  · try simp only [decide_eq_true_eq, decide_eq_false_iff_not, beq_iff_eq, beq_eq_false_iff_ne, bne_iff_ne, ne_eq, Bool.not_eq_true', Bool.not_eq_false', bne_eq_false_iff_eq, Bool.not_eq_eq_eq_not, Bool.not_true, Bool.not_false] at h7
    refine H.seq ?_
    refine H.region ?_
    refine Ops.quiet (Qt.eql rfl rfl) rfl ?_
    refine Ops.quiet (Qt.assign rfl) rfl ?_
    refine Ops.nil ?_
    refine H.then_normal ?_
    refine H.cond rfl (fun h13 => ?_) (fun h13 => ?_)
    · try simp only [decide_eq_true_eq, decide_eq_false_iff_not, beq_iff_eq, beq_eq_false_iff_ne, bne_iff_ne, ne_eq, Bool.not_eq_true', Bool.not_eq_false', bne_eq_false_iff_eq, Bool.not_eq_eq_eq_not, Bool.not_true, Bool.not_false] at h13
      refine H.seq ?_
      refine H.region ?_
      refine Ops.quiet (Qt.load_agg rfl (tk rfl) rfl (by repeat (first | exact List.Mem.head _ | apply List.Mem.tail)) (by rfl) (by rfl)) rfl ?_
      refine Ops.eff (Ef.call (fok fab_all rfl Tryz.func17 rfl) rfl (spec_bencode w0 hG.gl m a hb hg _ hm.tail)) rfl ?_
      rintro _ _ ⟨A, c, rfl, rfl⟩
      refine Ops.quiet (Qt.extract rfl rfl) rfl ?_
      refine Ops.quiet (Qt.extract rfl rfl) rfl ?_
      refine Ops.quiet (Qt.assign rfl) rfl ?_
      refine Ops.quiet (Qt.assign rfl) rfl ?_
      refine Ops.nil ?_
      refine H.then_normal ?_
      refine H.ret ?_
      refine H.blk_ret ?_
      refine H.then_ret ?_
      have e : encM m f = bytesM m := if_neg h7
      rw [e]
      refine (H.ends_to (cs' := osl 5 A (bytesM m).length c ((bytesM m).map u8v) :: cs) rfl (.cons (.tmp rfl) (.cons (.tmp rfl) .nil)) (fun w hw => ?_) ?_)
      · exact hw.sub (by repeat (first | exact List.Sublist.refl _ | exact List.nil_sublist _ | apply List.Sublist.cons_cons | apply List.Sublist.cons))
      · exact ⟨A, c, rfl, rfl⟩
    · try simp only [decide_eq_true_eq, decide_eq_false_iff_not, beq_iff_eq, beq_eq_false_iff_ne, bne_iff_ne, ne_eq, Bool.not_eq_true', Bool.not_eq_false', bne_eq_false_iff_eq, Bool.not_eq_eq_eq_not, Bool.not_true, Bool.not_false] at h13
      refine H.skip ?_
      refine H.blk_normal ?_
      refine H.then_normal ?_
      refine H.seq ?_
      refine H.region ?_
      refine Ops.quiet (Qt.assign rfl) rfl ?_
      refine Ops.quiet (Qt.assign rfl) rfl ?_
      refine Ops.nil ?_
      refine H.then_normal ?_
      refine H.ret ?_
      exact absurd hf (by omega)
theorem spec_tencode_bad (w0 : World) (hG : Gp w0) (m : Mg) (a : Ma) (hb : MB m) (hg : goodM m = false) {f : Int} (hf : f = 1 ∨ f = 2) (cs : List SProp) (hm : MR w0 cs m a) :
    Spec Tryz.prog w0 7 [m.v a, num f] cs (fun v cs' => v = .tuple #[.slice none 0 0, num 2] ∧ cs' = cs) := by
  refine Spec.of_body Tryz.func7 rfl Tryz.ntmps7 rfl ?_
  refine H.seq ?_
  refine H.region ?_
  refine Ops.eff (Ef.box rfl rfl) rfl ?_
  rintro _ _ ⟨b2, rfl, rfl⟩
  refine Ops.quiet (Qt.assign rfl) rfl ?_
  refine Ops.quiet (Qt.assign rfl) rfl ?_
  refine Ops.nil ?_
  refine H.then_normal ?_
  refine H.seq ?_
  refine H.seq ?_
  refine H.region ?_
  refine Ops.quiet (Qt.move rfl) rfl ?_
  refine Ops.nil ?_
  refine H.then_normal ?_
  refine H.block ?_
  refine H.seq ?_
  refine H.region ?_
  refine Ops.quiet (Qt.eql rfl rfl) rfl ?_
  refine Ops.quiet (Qt.assign rfl) rfl ?_
  refine Ops.nil ?_
  refine H.then_normal ?_
  refine H.cond rfl (fun h7 => ?_) (fun h7 => ?_)
  · try simp only [decide_eq_true_eq, decide_eq_false_iff_not, beq_iff_eq, beq_eq_false_iff_ne, bne_iff_ne, ne_eq, Bool.not_eq_true', Bool.not_eq_false', bne_eq_false_iff_eq, Bool.not_eq_eq_eq_not, Bool.not_true, Bool.not_false] at h7
    refine H.seq ?_
    refine H.region ?_
    refine Ops.quiet (Qt.load_agg rfl (tk rfl) rfl (by repeat (first | exact List.Mem.head _ | apply List.Mem.tail)) (by rfl) (by rfl)) rfl ?_
    refine Ops.eff (Ef.call (fok fab_all rfl Tryz.func16 rfl) rfl (spec_eencode_bad w0 hG.gl m a hb hg _ hm.tail)) rfl ?_
    rintro _ c0 ⟨rfl, h0⟩; subst c0
    refine Ops.quiet (Qt.extract rfl rfl) rfl ?_
    refine Ops.quiet (Qt.extract rfl rfl) rfl ?_
    refine Ops.quiet (Qt.assign rfl) rfl ?_
    refine Ops.quiet (Qt.assign rfl) rfl ?_
    refine Ops.nil ?_
    refine H.then_normal ?_
    refine H.ret ?_
    refine H.blk_ret ?_
    refine H.then_ret ?_
    refine (H.ends_to (cs' := cs) rfl (.cons (.tmp rfl) (.cons (.tmp rfl) .nil)) (fun w hw => ?_) ?_)
    · exact hw.sub (by repeat (first | exact List.Sublist.refl _ | exact List.nil_sublist _ | apply List.Sublist.cons_cons | apply List.Sublist.cons))
    · exact ⟨rfl, rfl⟩
  · try simp only [decide_eq_true_eq, decide_eq_false_iff_not, beq_iff_eq, beq_eq_false_iff_ne, bne_iff_ne, ne_eq, Bool.not_eq_true', Bool.not_eq_false', bne_eq_false_iff_eq, Bool.not_eq_eq_eq_not, Bool.not_true, Bool.not_false] at h7
    refine H.seq ?_
    refine H.region ?_
    refine Ops.quiet (Qt.eql rfl rfl) rfl ?_
    refine Ops.quiet (Qt.assign rfl) rfl ?_
    refine Ops.nil ?_
    refine H.then_normal ?_
    refine H.cond rfl (fun h13 => ?_) (fun h13 => ?_)
    · try simp only [decide_eq_true_eq, decide_eq_false_iff_not, beq_iff_eq, beq_eq_false_iff_ne, bne_iff_ne, ne_eq, Bool.not_eq_true', Bool.not_eq_false', bne_eq_false_iff_eq, Bool.not_eq_eq_eq_not, Bool.not_true, Bool.not_false] at h13
      refine H.seq ?_
      refine H.region ?_
      refine Ops.quiet (Qt.load_agg rfl (tk rfl) rfl (by repeat (first | exact List.Mem.head _ | apply List.Mem.tail)) (by rfl) (by rfl)) rfl ?_
      refine Ops.eff (Ef.call (fok fab_all rfl Tryz.func17 rfl) rfl (spec_bencode_bad w0 hG.gl m a hb hg _ hm.tail)) rfl ?_
      rintro _ c0 ⟨rfl, h0⟩; subst c0
      refine Ops.quiet (Qt.extract rfl rfl) rfl ?_
      refine Ops.quiet (Qt.extract rfl rfl) rfl ?_
      refine Ops.quiet (Qt.assign rfl) rfl ?_
      refine Ops.quiet (Qt.assign rfl) rfl ?_
      refine Ops.nil ?_
      refine H.then_normal ?_
      refine H.ret ?_
      refine H.blk_ret ?_
      refine H.then_ret ?_
      refine (H.ends_to (cs' := cs) rfl (.cons (.tmp rfl) (.cons (.tmp rfl) .nil)) (fun w hw => ?_) ?_)
      · exact hw.sub (by repeat (first | exact List.Sublist.refl _ | exact List.nil_sublist _ | apply List.Sublist.cons_cons | apply List.Sublist.cons))
      · exact ⟨rfl, rfl⟩
    · try simp only [decide_eq_true_eq, decide_eq_false_iff_not, beq_iff_eq, beq_eq_false_iff_ne, bne_iff_ne, ne_eq, Bool.not_eq_true', Bool.not_eq_false', bne_eq_false_iff_eq, Bool.not_eq_eq_eq_not, Bool.not_true, Bool.not_false] at h13
      refine H.skip ?_
      refine H.blk_normal ?_
      refine H.then_normal ?_
      refine H.seq ?_
      refine H.region ?_
      refine Ops.quiet (Qt.assign rfl) rfl ?_
      refine Ops.quiet (Qt.assign rfl) rfl ?_
      refine Ops.nil ?_
      refine H.then_normal ?_
      refine H.ret ?_
      exact absurd hf (by omega)
theorem spec_tencode_arg (w0 : World) (m : Mg) (a : Ma) {f : Int} (hf : ¬ (f = 1 ∨ f = 2)) (cs : List SProp) :
    Spec Tryz.prog w0 7 [m.v a, num f] cs (fun v cs' => v = .tuple #[.slice none 0 0, num 1] ∧ cs' = cs) := by
  refine Spec.of_body Tryz.func7 rfl Tryz.ntmps7 rfl ?_
  refine H.seq ?_
  refine H.region ?_
  refine Ops.eff (Ef.box rfl rfl) rfl ?_
  rintro _ _ ⟨b2, rfl, rfl⟩
  refine Ops.quiet (Qt.assign rfl) rfl ?_
  refine Ops.quiet (Qt.assign rfl) rfl ?_
  refine Ops.nil ?_
  refine H.then_normal ?_
  refine H.seq ?_
  refine H.seq ?_
  refine H.region ?_
  refine Ops.quiet (Qt.move rfl) rfl ?_
  refine Ops.nil ?_
  refine H.then_normal ?_
  refine H.block ?_
  refine H.seq ?_
  refine H.region ?_
  refine Ops.quiet (Qt.eql rfl rfl) rfl ?_
  refine Ops.quiet (Qt.assign rfl) rfl ?_
  refine Ops.nil ?_
  refine H.then_normal ?_
  refine H.cond rfl (fun h7 => ?_) (fun h7 => ?_)
  · try simp only [decide_eq_true_eq, decide_eq_false_iff_not, beq_iff_eq, beq_eq_false_iff_ne, bne_iff_ne, ne_eq, Bool.not_eq_true', Bool.not_eq_false', bne_eq_false_iff_eq, Bool.not_eq_eq_eq_not, Bool.not_true, Bool.not_false] at h7
    exact absurd (.inl h7) hf
  · try simp only [decide_eq_true_eq, decide_eq_false_iff_not, beq_iff_eq, beq_eq_false_iff_ne, bne_iff_ne, ne_eq, Bool.not_eq_true', Bool.not_eq_false', bne_eq_false_iff_eq, Bool.not_eq_eq_eq_not, Bool.not_true, Bool.not_false] at h7
    refine H.seq ?_
    refine H.region ?_
    refine Ops.quiet (Qt.eql rfl rfl) rfl ?_
    refine Ops.quiet (Qt.assign rfl) rfl ?_
    refine Ops.nil ?_
    refine H.then_normal ?_
    refine H.cond rfl (fun h13 => ?_) (fun h13 => ?_)
    · try simp only [decide_eq_true_eq, decide_eq_false_iff_not, beq_iff_eq, beq_eq_false_iff_ne, bne_iff_ne, ne_eq, Bool.not_eq_true', Bool.not_eq_false', bne_eq_false_iff_eq, Bool.not_eq_eq_eq_not, Bool.not_true, Bool.not_false] at h13
      exact absurd (.inr h13) hf
    · try simp only [decide_eq_true_eq, decide_eq_false_iff_not, beq_iff_eq, beq_eq_false_iff_ne, bne_iff_ne, ne_eq, Bool.not_eq_true', Bool.not_eq_false', bne_eq_false_iff_eq, Bool.not_eq_eq_eq_not, Bool.not_true, Bool.not_false] at h13
      refine H.skip ?_
      refine H.blk_normal ?_
      refine H.then_normal ?_
      refine H.seq ?_
      refine H.region ?_
      refine Ops.quiet (Qt.assign rfl) rfl ?_
      refine Ops.quiet (Qt.assign rfl) rfl ?_
      refine Ops.nil ?_
      refine H.then_normal ?_
      refine H.ret ?_
      refine (H.ends_to (cs' := cs) rfl (.cons (.tmp rfl) (.cons (.tmp rfl) .nil)) (fun w hw => ?_) ?_)
      · exact hw.sub (by repeat (first | exact List.Sublist.refl _ | exact List.nil_sublist _ | apply List.Sublist.cons_cons | apply List.Sublist.cons))
      · exact ⟨rfl, rfl⟩
theorem spec_tdecode (w0 : World) (hG : Gp w0) (m : Mg) (hb : MB m) (hg : GoodM m) {f : Int} (hf : f = 1 ∨ f = 2) {A : Option Addr} {n c : Nat} (cs : List SProp) (hr : Reads w0 cs A n c ((encM m f).map u8v)) :
    Spec Tryz.prog w0 9 [.slice A n c] cs (fun v cs' => ∃ a : Ma, v = .tuple #[m.v a, num 0] ∧ cs' = osl 9 a.r.A a.r.n a.r.c (m.rcpts.map str) :: osl 3 a.m.A a.m.n a.m.c (m.marks.map num) :: osl 9 a.b.A a.b.n a.b.c (m.body.map str) :: cs) := by
  have hsn := fun cs' (h : Reads w0 cs' A n c ((encM m f).map u8v)) => spec_sniff w0 (encM m f) cs' h
  rw [sniff_enc m hf] at hsn
  refine Spec.of_body Tryz.func9 rfl Tryz.ntmps9 rfl ?_
  refine H.seq ?_
  refine H.region ?_
  refine Ops.eff (Ef.alloc (zk rfl)) rfl ?_
  rintro _ _ ⟨b2, rfl, rfl⟩
  refine Ops.quiet (Qt.assign rfl) rfl ?_
  refine Ops.nil ?_
  refine H.then_normal ?_
  refine H.seq ?_
  refine H.seq ?_
  refine H.region ?_
  refine Ops.quiet (Qt.move rfl) rfl ?_
  refine Ops.eff (Ef.call (fok fab_all rfl Tryz.func12 rfl) rfl (hsn _ (Reads.tail hr))) rfl ?_
  rintro _ c0 ⟨rfl, h0⟩; subst c0
  refine Ops.nil ?_
  refine H.then_normal ?_
  refine H.block ?_
  refine H.seq ?_
  refine H.region ?_
  refine Ops.quiet (Qt.eql rfl rfl) rfl ?_
  refine Ops.quiet (Qt.assign rfl) rfl ?_
  refine Ops.nil ?_
  refine H.then_normal ?_
  refine H.cond rfl (fun h6 => ?_) (fun h6 => ?_)
  · try simp only [decide_eq_true_eq, decide_eq_false_iff_not, beq_iff_eq, beq_eq_false_iff_ne, bne_iff_ne, ne_eq, Bool.not_eq_true', Bool.not_eq_false', bne_eq_false_iff_eq, Bool.not_eq_eq_eq_not, Bool.not_true, Bool.not_false] at h6
    refine H.seq ?_
    have e : encM m f = textM m := if_pos h6
    rw [e] at hr
    refine H.region ?_
    refine Ops.quiet (Qt.move rfl) rfl ?_
    refine Ops.eff (Ef.call (fok fab_all rfl Tryz.func20 rfl) rfl (spec_edecode w0 hG m hb hg _ (Reads.tail hr))) rfl ?_
    rintro _ _ ⟨a, rfl, rfl⟩
    refine Ops.quiet (Qt.extract rfl rfl) rfl ?_
    refine Ops.quiet (Qt.extract rfl rfl) rfl ?_
    refine Ops.eff (Ef.store rfl rfl (tk rfl) rfl rfl (by repeat (first | exact ones_nil | refine ones_cons rfl ?_)) (by repeat (first | exact Upd.head | apply Upd.tail)) (by rfl)) rfl ?_
    rintro _ _ rfl
    refine Ops.quiet (Qt.assign rfl) rfl ?_
    refine Ops.nil ?_
    refine H.then_normal ?_
    refine H.ret ?_
    refine H.blk_ret ?_
    refine H.then_ret ?_
    refine (H.ends_to (cs' := osl 9 a.r.A a.r.n a.r.c (m.rcpts.map str) :: osl 3 a.m.A a.m.n a.m.c (m.marks.map num) :: osl 9 a.b.A a.b.n a.b.c (m.body.map str) :: cs) rfl (.cons (.agg rfl (tk rfl) rfl (by repeat (first | exact List.Mem.head _ | apply List.Mem.tail)) (by rfl) (by rfl)) (.cons (.tmp rfl) .nil)) (fun w hw => ?_) ?_)
    · exact hw.sub (by repeat (first | exact List.Sublist.refl _ | exact List.nil_sublist _ | apply List.Sublist.cons_cons | apply List.Sublist.cons))
    · exact ⟨a, rfl, rfl⟩
  · try simp only [decide_eq_true_eq, decide_eq_false_iff_not, beq_iff_eq, beq_eq_false_iff_ne, bne_iff_ne, ne_eq, Bool.not_eq_true', Bool.not_eq_false', bne_eq_false_iff_eq, Bool.not_eq_eq_eq_not, Bool.not_true, Bool.not_false] at h6
    refine H.seq ?_
    refine H.region ?_
    refine Ops.quiet (Qt.eql rfl rfl) rfl ?_
    refine Ops.quiet (Qt.assign rfl) rfl ?_
    refine Ops.nil ?_
    refine H.then_normal ?_
    refine H.cond rfl (fun h12 => ?_) (fun h12 => ?_)
    · try simp only [decide_eq_true_eq, decide_eq_false_iff_not, beq_iff_eq, beq_eq_false_iff_ne, bne_iff_ne, ne_eq, Bool.not_eq_true', Bool.not_eq_false', bne_eq_false_iff_eq, Bool.not_eq_eq_eq_not, Bool.not_true, Bool.not_false] at h12
      refine H.seq ?_
      have e : encM m f = bytesM m := if_neg h6
      rw [e] at hr
      refine H.region ?_
      refine Ops.quiet (Qt.move rfl) rfl ?_
      refine Ops.eff (Ef.call (fok fab_all rfl Tryz.func21 rfl) rfl (spec_bdecode w0 hG.gl m hb hg _ (Reads.tail hr))) rfl ?_
      rintro _ _ ⟨a, rfl, rfl⟩
      refine Ops.quiet (Qt.extract rfl rfl) rfl ?_
      refine Ops.quiet (Qt.extract rfl rfl) rfl ?_
      refine Ops.eff (Ef.store rfl rfl (tk rfl) rfl rfl (by repeat (first | exact ones_nil | refine ones_cons rfl ?_)) (by repeat (first | exact Upd.head | apply Upd.tail)) (by rfl)) rfl ?_
      rintro _ _ rfl
      refine Ops.quiet (Qt.assign rfl) rfl ?_
      refine Ops.nil ?_
      refine H.then_normal ?_
      refine H.ret ?_
      refine H.blk_ret ?_
      refine H.then_ret ?_
      refine (H.ends_to (cs' := osl 9 a.r.A a.r.n a.r.c (m.rcpts.map str) :: osl 3 a.m.A a.m.n a.m.c (m.marks.map num) :: osl 9 a.b.A a.b.n a.b.c (m.body.map str) :: cs) rfl (.cons (.agg rfl (tk rfl) rfl (by repeat (first | exact List.Mem.head _ | apply List.Mem.tail)) (by rfl) (by rfl)) (.cons (.tmp rfl) .nil)) (fun w hw => ?_) ?_)
      · exact hw.sub (by repeat (first | exact List.Sublist.refl _ | exact List.nil_sublist _ | apply List.Sublist.cons_cons | apply List.Sublist.cons))
      · exact ⟨a, rfl, rfl⟩
    · try simp only [decide_eq_true_eq, decide_eq_false_iff_not, beq_iff_eq, beq_eq_false_iff_ne, bne_iff_ne, ne_eq, Bool.not_eq_true', Bool.not_eq_false', bne_eq_false_iff_eq, Bool.not_eq_eq_eq_not, Bool.not_true, Bool.not_false] at h12
      refine H.skip ?_
      refine H.blk_normal ?_
      refine H.then_normal ?_
      refine H.seq ?_
      refine H.region ?_
      refine Ops.quiet (Qt.build (tk rfl) (zk rfl) rfl (by rfl)) rfl ?_
      refine Ops.eff (Ef.store rfl rfl (tk rfl) rfl rfl (by repeat (first | exact ones_nil | refine ones_cons rfl ?_)) (by repeat (first | exact Upd.head | apply Upd.tail)) (by rfl)) rfl ?_
      rintro _ _ rfl
      refine Ops.quiet (Qt.assign rfl) rfl ?_
      refine Ops.nil ?_
      refine H.then_normal ?_
      refine H.ret ?_
      exact absurd hf (by omega)
theorem spec_turn (w0 : World) (hG : Gp w0) (m : Mg) (hb : MB m) (hg : GoodM m) {f g : Int} (hf : f = 1 ∨ f = 2) (hgf : g = 1 ∨ g = 2) {A : Option Addr} {n c : Nat} (cs : List SProp) (hr : Reads w0 cs A n c ((encM m f).map u8v)) :
    Spec Tryz.prog w0 10 [.slice A n c, num g] cs (fun v cs' => ∃ A c, v = .tuple #[.slice A (encM m g).length c, num 0] ∧ cs' = osl 5 A (encM m g).length c ((encM m g).map u8v) :: cs) := by
  refine Spec.of_body Tryz.func10 rfl Tryz.ntmps10 rfl ?_
  refine H.seq ?_
  refine H.region ?_
  refine Ops.quiet (Qt.assign rfl) rfl ?_
  refine Ops.quiet (Qt.assign rfl) rfl ?_
  refine Ops.nil ?_
  refine H.then_normal ?_
  refine H.seq ?_
  refine H.seq ?_
  refine H.region ?_
  refine Ops.quiet (Qt.move rfl) rfl ?_
  refine Ops.quiet (Qt.neq rfl rfl) rfl ?_
  refine Ops.quiet (Qt.move rfl) rfl ?_
  refine Ops.guard rfl rfl rfl rfl (fun g10 => ?_) (fun g10 => ?_)
  · have g10' := g10
    try simp only [decide_eq_true_eq, decide_eq_false_iff_not, beq_iff_eq, beq_eq_false_iff_ne, bne_iff_ne, ne_eq, Bool.not_eq_true', Bool.not_eq_false', bne_eq_false_iff_eq, Bool.not_eq_eq_eq_not, Bool.not_true, Bool.not_false] at g10'
    refine Ops.quiet (Qt.move rfl) rfl ?_
    refine Ops.guard_yes rfl rfl rfl rfl g10 ?_
    refine Ops.quiet (Qt.neq rfl rfl) rfl ?_
    refine Ops.quiet (Qt.pick_t rfl rfl g10) rfl ?_
    refine Ops.nil ?_
    refine H.then_normal ?_
    refine H.cond rfl (fun h13 => ?_) (fun h13 => ?_)
    · try simp only [decide_eq_true_eq, decide_eq_false_iff_not, beq_iff_eq, beq_eq_false_iff_ne, bne_iff_ne, ne_eq, Bool.not_eq_true', Bool.not_eq_false', bne_eq_false_iff_eq, Bool.not_eq_eq_eq_not, Bool.not_true, Bool.not_false] at h13
      exact absurd hgf (by omega)
    · try simp only [decide_eq_true_eq, decide_eq_false_iff_not, beq_iff_eq, beq_eq_false_iff_ne, bne_iff_ne, ne_eq, Bool.not_eq_true', Bool.not_eq_false', bne_eq_false_iff_eq, Bool.not_eq_eq_eq_not, Bool.not_true, Bool.not_false] at h13
      refine H.skip ?_
      refine H.then_normal ?_
      refine H.seq ?_
      refine H.region ?_
      refine Ops.quiet (Qt.move rfl) rfl ?_
      refine Ops.eff (Ef.call (fok fab_all rfl Tryz.func9 rfl) rfl (spec_tdecode w0 hG m hb hg hf _ hr)) rfl ?_
      rintro _ _ ⟨a, rfl, rfl⟩
      refine Ops.quiet (Qt.move rfl) rfl ?_
      refine Ops.quiet (Qt.extract rfl rfl) rfl ?_
      refine Ops.quiet (Qt.extract rfl rfl) rfl ?_
      refine Ops.eff (Ef.alloc (zk rfl)) rfl ?_
      rintro _ _ ⟨b6, rfl, rfl⟩
      refine Ops.eff (Ef.store rfl rfl (tk rfl) rfl rfl (by repeat (first | exact ones_nil | refine ones_cons rfl ?_)) (by repeat (first | exact Upd.head | apply Upd.tail)) (by rfl)) rfl ?_
      rintro _ _ rfl
      refine Ops.quiet (Qt.assign rfl) rfl ?_
      refine Ops.nil ?_
      refine H.then_normal ?_
      refine H.seq ?_
      refine H.seq ?_
      refine H.region ?_
      refine Ops.quiet (Qt.move rfl) rfl ?_
      refine Ops.quiet (Qt.neq rfl rfl) rfl ?_
      refine Ops.nil ?_
      refine H.then_normal ?_
      refine H.cond_false rfl (by rfl) ?_
      refine H.skip ?_
      refine H.then_normal ?_
      refine H.seq ?_
      refine H.region ?_
      refine Ops.quiet (Qt.load_agg rfl (tk rfl) rfl (by repeat (first | exact List.Mem.head _ | apply List.Mem.tail)) (by rfl) (by rfl)) rfl ?_
      refine Ops.quiet (Qt.move rfl) rfl ?_
      refine Ops.eff (Ef.call (fok fab_all rfl Tryz.func7 rfl) rfl (spec_tencode w0 hG m a hb hg hgf _ ⟨osl_reads (by repeat (first | exact List.Mem.head _ | apply List.Mem.tail)), osl_reads (by repeat (first | exact List.Mem.head _ | apply List.Mem.tail)), osl_reads (by repeat (first | exact List.Mem.head _ | apply List.Mem.tail))⟩)) rfl ?_
      rintro _ _ ⟨A2, c2, rfl, rfl⟩
      refine Ops.quiet (Qt.extract rfl rfl) rfl ?_
      refine Ops.quiet (Qt.extract rfl rfl) rfl ?_
      refine Ops.quiet (Qt.assign rfl) rfl ?_
      refine Ops.quiet (Qt.assign rfl) rfl ?_
      refine Ops.nil ?_
      refine H.then_normal ?_
      refine H.ret ?_
      refine (H.ends_to (cs' := osl 5 A2 (encM m g).length c2 ((encM m g).map u8v) :: cs) rfl (.cons (.tmp rfl) (.cons (.tmp rfl) .nil)) (fun w hw => ?_) ?_)
      · exact hw.sub (by repeat (first | exact List.Sublist.refl _ | exact List.nil_sublist _ | apply List.Sublist.cons_cons | apply List.Sublist.cons))
      · exact ⟨A2, c2, rfl, rfl⟩
  · have g10' := g10
    try simp only [decide_eq_true_eq, decide_eq_false_iff_not, beq_iff_eq, beq_eq_false_iff_ne, bne_iff_ne, ne_eq, Bool.not_eq_true', Bool.not_eq_false', bne_eq_false_iff_eq, Bool.not_eq_eq_eq_not, Bool.not_true, Bool.not_false] at g10'
    refine Ops.guard_no rfl rfl rfl rfl g10 ?_
    refine Ops.quiet (Qt.pick_f rfl rfl g10) rfl ?_
    refine Ops.nil ?_
    refine H.then_normal ?_
    refine H.cond_false rfl (by rfl) ?_
    refine H.skip ?_
    refine H.then_normal ?_
    refine H.seq ?_
    refine H.region ?_
    refine Ops.quiet (Qt.move rfl) rfl ?_
    refine Ops.eff (Ef.call (fok fab_all rfl Tryz.func9 rfl) rfl (spec_tdecode w0 hG m hb hg hf _ hr)) rfl ?_
    rintro _ _ ⟨a, rfl, rfl⟩
    refine Ops.quiet (Qt.move rfl) rfl ?_
    refine Ops.quiet (Qt.extract rfl rfl) rfl ?_
    refine Ops.quiet (Qt.extract rfl rfl) rfl ?_
    refine Ops.eff (Ef.alloc (zk rfl)) rfl ?_
    rintro _ _ ⟨b6, rfl, rfl⟩
    refine Ops.eff (Ef.store rfl rfl (tk rfl) rfl rfl (by repeat (first | exact ones_nil | refine ones_cons rfl ?_)) (by repeat (first | exact Upd.head | apply Upd.tail)) (by rfl)) rfl ?_
    rintro _ _ rfl
    refine Ops.quiet (Qt.assign rfl) rfl ?_
    refine Ops.nil ?_
    refine H.then_normal ?_
    refine H.seq ?_
    refine H.seq ?_
    refine H.region ?_
    refine Ops.quiet (Qt.move rfl) rfl ?_
    refine Ops.quiet (Qt.neq rfl rfl) rfl ?_
    refine Ops.nil ?_
    refine H.then_normal ?_
    refine H.cond_false rfl (by rfl) ?_
    refine H.skip ?_
    refine H.then_normal ?_
    refine H.seq ?_
    refine H.region ?_
    refine Ops.quiet (Qt.load_agg rfl (tk rfl) rfl (by repeat (first | exact List.Mem.head _ | apply List.Mem.tail)) (by rfl) (by rfl)) rfl ?_
    refine Ops.quiet (Qt.move rfl) rfl ?_
    refine Ops.eff (Ef.call (fok fab_all rfl Tryz.func7 rfl) rfl (spec_tencode w0 hG m a hb hg hgf _ ⟨osl_reads (by repeat (first | exact List.Mem.head _ | apply List.Mem.tail)), osl_reads (by repeat (first | exact List.Mem.head _ | apply List.Mem.tail)), osl_reads (by repeat (first | exact List.Mem.head _ | apply List.Mem.tail))⟩)) rfl ?_
    rintro _ _ ⟨A2, c2, rfl, rfl⟩
    refine Ops.quiet (Qt.extract rfl rfl) rfl ?_
    refine Ops.quiet (Qt.extract rfl rfl) rfl ?_
    refine Ops.quiet (Qt.assign rfl) rfl ?_
    refine Ops.quiet (Qt.assign rfl) rfl ?_
    refine Ops.nil ?_
    refine H.then_normal ?_
    refine H.ret ?_
    refine (H.ends_to (cs' := osl 5 A2 (encM m g).length c2 ((encM m g).map u8v) :: cs) rfl (.cons (.tmp rfl) (.cons (.tmp rfl) .nil)) (fun w hw => ?_) ?_)
    · exact hw.sub (by repeat (first | exact List.Sublist.refl _ | exact List.nil_sublist _ | apply List.Sublist.cons_cons | apply List.Sublist.cons))
    · exact ⟨A2, c2, rfl, rfl⟩
theorem spec_turn_arg (w0 : World) {g : Int} (hgf : ¬ (g = 1 ∨ g = 2)) (v : Value) (cs : List SProp) :
    Spec Tryz.prog w0 10 [v, num g] cs (fun v cs' => v = .tuple #[.slice none 0 0, num 1] ∧ cs' = cs) := by
  refine Spec.of_body Tryz.func10 rfl Tryz.ntmps10 rfl ?_
  refine H.seq ?_
  refine H.region ?_
  refine Ops.quiet (Qt.assign rfl) rfl ?_
  refine Ops.quiet (Qt.assign rfl) rfl ?_
  refine Ops.nil ?_
  refine H.then_normal ?_
  refine H.seq ?_
  refine H.seq ?_
  refine H.region ?_
  refine Ops.quiet (Qt.move rfl) rfl ?_
  refine Ops.quiet (Qt.neq rfl rfl) rfl ?_
  refine Ops.quiet (Qt.move rfl) rfl ?_
  refine Ops.guard rfl rfl rfl rfl (fun g10 => ?_) (fun g10 => ?_)
  · have g10' := g10
    try simp only [decide_eq_true_eq, decide_eq_false_iff_not, beq_iff_eq, beq_eq_false_iff_ne, bne_iff_ne, ne_eq, Bool.not_eq_true', Bool.not_eq_false', bne_eq_false_iff_eq, Bool.not_eq_eq_eq_not, Bool.not_true, Bool.not_false] at g10'
    refine Ops.quiet (Qt.move rfl) rfl ?_
    refine Ops.guard_yes rfl rfl rfl rfl g10 ?_
    refine Ops.quiet (Qt.neq rfl rfl) rfl ?_
    refine Ops.quiet (Qt.pick_t rfl rfl g10) rfl ?_
    refine Ops.nil ?_
    refine H.then_normal ?_
    refine H.cond_true rfl (by exact bne_iff_ne.2 (by omega)) ?_
    refine H.seq ?_
    refine H.region ?_
    refine Ops.quiet (Qt.assign rfl) rfl ?_
    refine Ops.quiet (Qt.assign rfl) rfl ?_
    refine Ops.nil ?_
    refine H.then_normal ?_
    refine H.ret ?_
    refine H.then_ret ?_
    refine (H.ends rfl (.cons (.tmp rfl) (.cons (.tmp rfl) .nil)) ?_)
    exact ⟨rfl, rfl⟩
  · have g10' := g10
    try simp only [decide_eq_true_eq, decide_eq_false_iff_not, beq_iff_eq, beq_eq_false_iff_ne, bne_iff_ne, ne_eq, Bool.not_eq_true', Bool.not_eq_false', bne_eq_false_iff_eq, Bool.not_eq_eq_eq_not, Bool.not_true, Bool.not_false] at g10'
    exact absurd hgf (by omega)
end Go.Proofs.YtbglphpinhjfeaaGreatDoor
