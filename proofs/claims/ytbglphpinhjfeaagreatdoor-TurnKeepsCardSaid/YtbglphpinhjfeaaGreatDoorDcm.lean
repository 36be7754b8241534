/- The document's digits. -/
import Derived.Test.YtbglphpinhjfeaaGreatDoorRdr
import Derived.Test.YtbglphpinhjfeaaGreatDoorOpv
import Derived.Lib.ItoaNum
namespace Go.Proofs.YtbglphpinhjfeaaGreatDoor
open Go Go.RowKit
set_option maxRecDepth 100000
set_option linter.unusedVariables false
set_option linter.unusedSimpArgs false
attribute [local irreducible] Go.wpList Go.Code.wp Go.Exit.then Go.Exit.inBlock Go.Exit.noGoto Ends blk osl oblk LoopI Own Spec
/-! ### The document's digits -/
def decF : Nat → Nat → Bs
  | 0, _ => []
  | f + 1, n => if n < 10 then [UInt8.ofNat (48 + n)] else decF f (n / 10) ++ [UInt8.ofNat (48 + n % 10)]
def decB (n : Nat) : Bs := decF 20 n
theorem decF_len : ∀ f n, (decF f n).length ≤ f
  | 0, n => by simp [decF]
  | f + 1, n => by
    unfold decF
    split
    · simp
    · have := decF_len f (n / 10)
      simp; omega
theorem udec_step (w0 : World) (f n : Nat) (hm : n ≤ 18446744073709551615) (hf : f ≤ 20) (hq : 10 ≤ n → ∀ cs, Spec Tryz.prog w0 47 [.int .u64 ((n / 10 : Nat) : Int)] cs (fun v cs' => v = str (decF f (n / 10)) ∧ cs' = cs)) (cs : List SProp) :
    Spec Tryz.prog w0 47 [.int .u64 n] cs (fun v cs' => v = str (decF (f + 1) n) ∧ cs' = cs) := by
  have hl := decF_len f (n / 10)
  refine Spec.of_body Tryz.func47 rfl Tryz.ntmps47 rfl ?_
  refine H.seq ?_
  refine H.region ?_
  refine Ops.quiet (Qt.assign rfl) rfl ?_
  refine Ops.nil ?_
  refine H.then_normal ?_
  refine H.seq ?_
  refine H.seq ?_
  refine H.region ?_
  refine Ops.quiet (Qt.move rfl) rfl ?_
  refine Ops.quiet (Qt.lss rfl rfl) rfl ?_
  refine Ops.nil ?_
  refine H.then_normal ?_
  refine H.cond rfl (fun h4 => ?_) (fun h4 => ?_)
  · try simp only [decide_eq_true_eq, decide_eq_false_iff_not, beq_iff_eq, beq_eq_false_iff_ne, bne_iff_ne, ne_eq, Bool.not_eq_true', Bool.not_eq_false', bne_eq_false_iff_eq, Bool.not_eq_eq_eq_not, Bool.not_true, Bool.not_false] at h4
    refine H.seq ?_
    refine H.region ?_
    refine Ops.quiet (Qt.move rfl) rfl ?_
    refine Ops.quiet (Qt.conv_k rfl (tk rfl) (tk rfl) (by first | exact IntWalk.i64_in _ (by omega) | exact IntWalk.u8_in _ (by omega) | exact IntWalk.u64_in _ (by omega) | exact IntWalk.u32_in _ (by omega) | exact IntWalk.u16_in _ (by omega))) rfl ?_
    refine Ops.quiet (Qt.cast (Qt.addk rfl rfl (by first | exact IntWalk.i64_in _ (by omega) | exact IntWalk.u8_in _ (by omega) | exact IntWalk.u64_in _ (by omega) | exact IntWalk.u32_in _ (by omega) | exact IntWalk.u16_in _ (by omega))) (u8_of (by omega) (by omega))) rfl ?_
    refine Ops.eff (Ef.buildSlice (tk rfl) (tk rfl) rfl (zk rfl) rfl rfl rfl (by repeat (first | exact ones_nil | refine ones_cons rfl ?_))) rfl ?_
    rintro _ _ ⟨A8, c8, rfl, rfl⟩
    refine Ops.quiet (Qt.bytes_str (l := [UInt8.ofNat (48 + (n : Int)).toNat]) rfl (tk rfl) (tk rfl) (tk rfl) (by repeat (first | assumption | exact Reads.of_head | apply Reads.tail))) rfl ?_
    refine Ops.quiet (Qt.assign rfl) rfl ?_
    refine Ops.nil ?_
    refine H.then_normal ?_
    refine H.ret ?_
    refine H.then_ret ?_
    refine (H.ends_to (cs' := cs) rfl (.cons (.tmp rfl) .nil) (fun w hw => ?_) ?_)
    · exact hw.sub (by repeat (first | exact List.Sublist.refl _ | exact List.nil_sublist _ | apply List.Sublist.cons_cons | apply List.Sublist.cons))
    · refine ⟨?_, rfl⟩
      have e1 : (48 + (n : Int)).toNat = 48 + n := by omega
      simp only [retV, decF, e1]
      rw [if_pos (by omega)]
  · try simp only [decide_eq_true_eq, decide_eq_false_iff_not, beq_iff_eq, beq_eq_false_iff_ne, bne_iff_ne, ne_eq, Bool.not_eq_true', Bool.not_eq_false', bne_eq_false_iff_eq, Bool.not_eq_eq_eq_not, Bool.not_true, Bool.not_false] at h4
    refine H.skip ?_
    refine H.then_normal ?_
    refine H.seq ?_
    have hq' := hq (by omega)
    refine H.drawn_all 9 mixed (by kernel_rfl) ?_
    refine Hd.quiet 0 (by kernel_rfl) rfl rfl (by kernel_rfl) rfl (Qt.move rfl) ?_
    refine Hd.quiet 1 (by kernel_rfl) rfl rfl (by kernel_rfl) rfl (Qt.quoP rfl rfl (by omega) (by omega) (by first | exact IntWalk.i64_in _ (by omega) | exact IntWalk.u8_in _ (by omega) | exact IntWalk.u64_in _ (by omega) | exact IntWalk.u32_in _ (by omega) | exact IntWalk.u16_in _ (by omega))) ?_
    refine Hd.quiet 3 (by kernel_rfl) rfl rfl (by kernel_rfl) rfl (Qt.move rfl) ?_
    refine Hd.quiet 4 (by kernel_rfl) rfl rfl (by kernel_rfl) rfl (Qt.remP rfl rfl (by omega) (by omega)) ?_
    refine Hd.quiet 5 (by kernel_rfl) rfl rfl (by kernel_rfl) rfl (Qt.conv_k rfl (tk rfl) (tk rfl) (by first | exact IntWalk.i64_in _ (by omega) | exact IntWalk.u8_in _ (by omega) | exact IntWalk.u64_in _ (by omega) | exact IntWalk.u32_in _ (by omega) | exact IntWalk.u16_in _ (by omega))) ?_
    refine Hd.quiet 6 (by kernel_rfl) rfl rfl (by kernel_rfl) rfl (Qt.cast (Qt.addk rfl rfl (by first | exact IntWalk.i64_in _ (by omega) | exact IntWalk.u8_in _ (by omega) | exact IntWalk.u64_in _ (by omega) | exact IntWalk.u32_in _ (by omega) | exact IntWalk.u16_in _ (by omega))) (u8_of (by omega) (by omega))) ?_
    refine Hd.eff2 2 7 (by intro w hw; first | exact hw | exact Own.sub (by repeat (first | exact List.Sublist.refl _ | exact List.nil_sublist _ | apply List.Sublist.cons_cons | apply List.Sublist.cons)) hw) rfl rfl (by kernel_rfl) (by kernel_rfl) (by kernel_rfl) rfl rfl (Ef.call (fok fab_all rfl Tryz.func47 rfl) rfl (hq' _)) (Ef.buildSlice (tk rfl) (tk rfl) rfl (zk rfl) rfl rfl rfl (by repeat (first | exact ones_nil | refine ones_cons rfl ?_))) ?_ ?_
    · rintro _ x ⟨rfl, hx⟩; subst x
      refine Hd.eff 7 (by intro w hw; first | exact hw | exact Own.sub (by repeat (first | exact List.Sublist.refl _ | exact List.nil_sublist _ | apply List.Sublist.cons_cons | apply List.Sublist.cons)) hw) rfl rfl (by kernel_rfl) rfl (Ef.buildSlice (tk rfl) (tk rfl) rfl (zk rfl) rfl rfl rfl (by repeat (first | exact ones_nil | refine ones_cons rfl ?_))) ?_
      rintro _ _ ⟨A17, c17, rfl, rfl⟩
      refine Hd.eff 8 (by intro w hw; first | exact hw | exact Own.sub (by repeat (first | exact List.Sublist.refl _ | exact List.nil_sublist _ | apply List.Sublist.cons_cons | apply List.Sublist.cons)) hw) rfl rfl (by kernel_rfl) rfl (Qt.ef (Qt.bytes_str (l := [UInt8.ofNat (48 + (n : Int) % 10).toNat]) rfl (tk rfl) (tk rfl) (tk rfl) (by repeat (first | assumption | exact Reads.of_head | apply Reads.tail)))) ?_
      rintro _ c0 ⟨rfl, h0⟩; subst c0
      refine Hd.tail (by intro w hw; first | exact hw | exact Own.sub (by repeat (first | exact List.Sublist.refl _ | exact List.nil_sublist _ | apply List.Sublist.cons_cons | apply List.Sublist.cons)) hw) (by kernel_rfl) rfl ?_
      refine Ops.quiet (Qt.cat rfl rfl (by (try simp only [List.length_append, List.length_cons, List.length_nil]); omega)) rfl ?_
      refine Ops.quiet (Qt.assign rfl) rfl ?_
      refine Ops.nil ?_
      refine H.then_normal ?_
      refine H.ret ?_
      refine (H.ends_to (cs' := cs) rfl (.cons (.tmp rfl) .nil) (fun w hw => ?_) ?_)
      · exact hw.sub (by repeat (first | exact List.Sublist.refl _ | exact List.nil_sublist _ | apply List.Sublist.cons_cons | apply List.Sublist.cons))
      · refine ⟨?_, rfl⟩
        have e1 : (48 + (n : Int) % 10).toNat = 48 + n % 10 := by omega
        simp only [retV, decF, e1]
        rw [if_neg (by omega)]
    · rintro _ _ ⟨A17, c17, rfl, rfl⟩
      refine Hd.eff2 2 8 (by intro w hw; first | exact hw | exact Own.sub (by repeat (first | exact List.Sublist.refl _ | exact List.nil_sublist _ | apply List.Sublist.cons_cons | apply List.Sublist.cons)) hw) rfl rfl (by kernel_rfl) (by kernel_rfl) (by kernel_rfl) rfl rfl (Ef.call (fok fab_all rfl Tryz.func47 rfl) rfl (hq' _)) (Qt.ef (Qt.bytes_str (l := [UInt8.ofNat (48 + (n : Int) % 10).toNat]) rfl (tk rfl) (tk rfl) (tk rfl) (by repeat (first | assumption | exact Reads.of_head | apply Reads.tail)))) ?_ ?_
      · rintro _ _ ⟨rfl, rfl⟩
        refine Hd.eff 8 (by intro w hw; first | exact hw | exact Own.sub (by repeat (first | exact List.Sublist.refl _ | exact List.nil_sublist _ | apply List.Sublist.cons_cons | apply List.Sublist.cons)) hw) rfl rfl (by kernel_rfl) rfl (Qt.ef (Qt.bytes_str (l := [UInt8.ofNat (48 + (n : Int) % 10).toNat]) rfl (tk rfl) (tk rfl) (tk rfl) (by repeat (first | assumption | exact Reads.of_head | apply Reads.tail)))) ?_
        rintro _ c0 ⟨rfl, h0⟩; subst c0
        refine Hd.tail (by intro w hw; first | exact hw | exact Own.sub (by repeat (first | exact List.Sublist.refl _ | exact List.nil_sublist _ | apply List.Sublist.cons_cons | apply List.Sublist.cons)) hw) (by kernel_rfl) rfl ?_
        refine Ops.quiet (Qt.cat rfl rfl (by (try simp only [List.length_append, List.length_cons, List.length_nil]); omega)) rfl ?_
        refine Ops.quiet (Qt.assign rfl) rfl ?_
        refine Ops.nil ?_
        refine H.then_normal ?_
        refine H.ret ?_
        refine (H.ends_to (cs' := cs) rfl (.cons (.tmp rfl) .nil) (fun w hw => ?_) ?_)
        · exact hw.sub (by repeat (first | exact List.Sublist.refl _ | exact List.nil_sublist _ | apply List.Sublist.cons_cons | apply List.Sublist.cons))
        · refine ⟨?_, rfl⟩
          have e1 : (48 + (n : Int) % 10).toNat = 48 + n % 10 := by omega
          simp only [retV, decF, e1]
          rw [if_neg (by omega)]
      · rintro _ _ ⟨rfl, rfl⟩
        refine Hd.eff 2 (by intro w hw; first | exact hw | exact Own.sub (by repeat (first | exact List.Sublist.refl _ | exact List.nil_sublist _ | apply List.Sublist.cons_cons | apply List.Sublist.cons)) hw) rfl rfl (by kernel_rfl) rfl (Ef.call (fok fab_all rfl Tryz.func47 rfl) rfl (hq' _)) ?_
        rintro _ c0 ⟨rfl, h0⟩; subst c0
        refine Hd.tail (by intro w hw; first | exact hw | exact Own.sub (by repeat (first | exact List.Sublist.refl _ | exact List.nil_sublist _ | apply List.Sublist.cons_cons | apply List.Sublist.cons)) hw) (by kernel_rfl) rfl ?_
        refine Ops.quiet (Qt.cat rfl rfl (by (try simp only [List.length_append, List.length_cons, List.length_nil]); omega)) rfl ?_
        refine Ops.quiet (Qt.assign rfl) rfl ?_
        refine Ops.nil ?_
        refine H.then_normal ?_
        refine H.ret ?_
        refine (H.ends_to (cs' := cs) rfl (.cons (.tmp rfl) .nil) (fun w hw => ?_) ?_)
        · exact hw.sub (by repeat (first | exact List.Sublist.refl _ | exact List.nil_sublist _ | apply List.Sublist.cons_cons | apply List.Sublist.cons))
        · refine ⟨?_, rfl⟩
          have e1 : (48 + (n : Int) % 10).toNat = 48 + n % 10 := by omega
          simp only [retV, decF, e1]
          rw [if_neg (by omega)]
theorem spec_udec (w0 : World) : ∀ (f n : Nat), n < 10 ^ (f + 1) → f ≤ 20 → n ≤ 18446744073709551615 → ∀ cs, Spec Tryz.prog w0 47 [.int .u64 n] cs (fun v cs' => v = str (decF (f + 1) n) ∧ cs' = cs)
  | 0, n, h, hf, hm, cs => udec_step w0 0 n hm hf (fun h10 => by simp at h; omega) cs
  | f + 1, n, h, hf, hm, cs => udec_step w0 (f + 1) n hm (by omega) (fun _ => spec_udec w0 f (n / 10) (by have : 10 ^ (f + 2) = 10 ^ (f + 1) * 10 := Nat.pow_succ ..; omega) (by omega) (by omega)) cs
theorem spec_dec (w0 : World) (n : Nat) (h : n < 10000000000000000000) (cs : List SProp) : Spec Tryz.prog w0 24 [num n] cs (fun v cs' => v = str (decB n) ∧ cs' = cs) := by
  refine Spec.of_body Tryz.func24 rfl Tryz.ntmps24 rfl ?_
  refine H.seq ?_
  refine H.region ?_
  refine Ops.quiet (Qt.assign rfl) rfl ?_
  refine Ops.nil ?_
  refine H.then_normal ?_
  refine H.seq ?_
  refine H.seq ?_
  refine H.region ?_
  refine Ops.quiet (Qt.move rfl) rfl ?_
  refine Ops.quiet (Qt.lss rfl rfl) rfl ?_
  refine Ops.nil ?_
  refine H.then_normal ?_
  refine H.cond_false rfl (by exact decide_eq_false (by omega)) ?_
  refine H.skip ?_
  refine H.then_normal ?_
  refine H.seq ?_
  refine H.region ?_
  refine Ops.quiet (Qt.move rfl) rfl ?_
  refine Ops.quiet (Qt.conv_k rfl (tk rfl) (tk rfl) (by first | exact IntWalk.i64_in _ (by omega) | exact IntWalk.u8_in _ (by omega) | exact IntWalk.u64_in _ (by omega) | exact IntWalk.u32_in _ (by omega) | exact IntWalk.u16_in _ (by omega))) rfl ?_
  refine Ops.eff (Ef.call (fok fab_all rfl Tryz.func47 rfl) rfl (spec_udec w0 19 n (by omega) (by omega) (by omega) _)) rfl ?_
  rintro _ c0 ⟨rfl, h0⟩; subst c0
  refine Ops.quiet (Qt.assign rfl) rfl ?_
  refine Ops.nil ?_
  refine H.then_normal ?_
  refine H.ret ?_
  refine (H.ends rfl (.cons (.tmp rfl) .nil) ?_)
  exact ⟨rfl, rfl⟩
theorem decF_dec : ∀ (f n : Nat), n < 10 ^ (f + 1) → decF (f + 1) n = Lib.decDigits n
  | 0, n, h => by
    have : n < 10 := by simpa using h
    rw [Lib.decDigits, dif_pos this, decF, if_pos this]
  | f + 1, n, h => by
    rw [Lib.decDigits, decF]
    by_cases h10 : n < 10
    · rw [dif_pos h10, if_pos h10]
    · rw [dif_neg h10, if_neg h10, decF_dec f (n / 10) (by have : 10 ^ (f + 2) = 10 ^ (f + 1) * 10 := Nat.pow_succ ..; omega)]
theorem decB_itoa {n : Int} (h0 : 0 ≤ n) (h1 : n < 10000000000000000000) : decB n.toNat = Lib.itoa n := by
  have : ¬ n < 0 := by omega
  rw [Lib.itoa, if_neg this, decB, decF_dec 19 _ (by omega)]
theorem itoa_len {n : Int} (h0 : 0 ≤ n) (h1 : n < 10000000000000000000) : (Lib.itoa n).length ≤ 20 := by
  rw [← decB_itoa h0 h1]; exact decF_len 20 _
/-- Dec, in the library's words. -/
theorem spec_deci (w0 : World) (n : Int) (h0 : 0 ≤ n) (h1 : n < 10000000000000000000) (cs : List SProp) : Spec Tryz.prog w0 24 [num n] cs (fun v cs' => v = str (Lib.itoa n) ∧ cs' = cs) := by
  have h := spec_dec w0 n.toNat (by omega) cs
  rw [decB_itoa h0 h1, show ((n.toNat : Nat) : Int) = n by omega] at h
  exact h
end Go.Proofs.YtbglphpinhjfeaaGreatDoor
