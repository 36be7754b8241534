/- What the session does at whole replies, and the document's digits: for SendStops and SendWell. -/
import Derived.Test.YtimldpbddkhedaaDoorPly
import Derived.Test.YtimldpbddkhedaaDoorOpv
namespace Go.Proofs.YtimldpbddkhedaaDoor
open Go Go.RowKit
set_option maxRecDepth 100000
set_option linter.unusedVariables false
set_option linter.unusedSimpArgs false
attribute [local irreducible] Go.wpList Go.Code.wp Go.Exit.then Go.Exit.inBlock Go.Exit.noGoto Ends blk osl oblk LoopI Own Spec
theorem fdRun_nil {c : Cl} (h : c.wait = []) : ∀ n, fdRun n c = c
  | 0 => rfl
  | n + 1 => by
    unfold fdRun
    split
    · rfl
    · have : crlf c.wait = none := by rw [h]; kernel_rfl
      rw [this]
theorem fdRun_step {c : Cl} {i n : Nat} (ho : c.over = false) (hx : crlf c.wait = some i) : fdRun (n + 1) c = fdRun n (Cl.feed1 { c with wait := c.wait.drop (i + 2) } (lineOf (c.wait.take i) 512)) := by
  simp [fdRun, ho, hx]
/-- A whole reply of one line comes while nothing waits. -/
theorem feed_line {c : Cl} {x t : Bs} {i : Nat} {code : Int} (ho : c.over = false) (hw : c.wait = []) (hc : c.rcode = 0) (hr : c.rlines = [])
    (hx : crlf x = some i) (hs : splitL (lineOf (x.take i) 512) = ⟨code, false, t, true⟩) : c.feed x = fdRun x.length (Cl.take { c with wait := x.drop (i + 2) } code) := by
  obtain ⟨host, frm, targets, body, wait, rcode, rlines, out, state, at_, codes, over⟩ := c
  simp only at ho hw hc hr
  subst ho hw hc hr
  simp only [Cl.feed, Bool.false_eq_true, if_false, List.nil_append]
  rw [fdRun_step rfl hx]
  congr 1
  simp only [Cl.feed1, hs, replyF, List.length_nil, Nat.lt_irrefl, false_and, or_false, Bool.true_eq_false, Bool.false_eq_true, if_false, ne_eq, not_true_eq_false, if_true, Cl.put]
theorem feed_one {c : Cl} {x t : Bs} {i : Nat} {code : Int} (ho : c.over = false) (hw : c.wait = []) (hc : c.rcode = 0) (hr : c.rlines = [])
    (hx : crlf x = some i) (hs : splitL (lineOf (x.take i) 512) = ⟨code, false, t, true⟩) (hd : x.drop (i + 2) = []) : c.feed x = c.take code := by
  rw [feed_line ho hw hc hr hx hs, hd]
  have e : { c with wait := ([] : Bs) } = c := by cases c; simp only at hw; subst hw; rfl
  rw [e, fdRun_nil ((Cl.take_same c code).wait.trans hw)]

/-! ### The document's digits -/
def decF : Nat → Nat → Bs
  | 0, _ => []
  | f + 1, n => if n < 10 then [UInt8.ofNat (48 + n)] else decF f (n / 10) ++ [UInt8.ofNat (48 + n % 10)]
def decB (n : Nat) : Bs := decF 20 n
theorem decF_len : ∀ f n, (decF f n).length ≤ f
  | 0, n => by simp [decF]
  | f + 1, n => by
    unfold decF
    split
    · simp
    · have := decF_len f (n / 10)
      simp; omega
theorem udec_step (w0 : World) (f n : Nat) (hm : n ≤ 18446744073709551615) (hf : f ≤ 20) (hq : 10 ≤ n → ∀ cs, Spec Tryd.prog w0 37 [.int .u64 ((n / 10 : Nat) : Int)] cs (fun v cs' => v = str (decF f (n / 10)) ∧ cs' = cs)) (cs : List SProp) :
    Spec Tryd.prog w0 37 [.int .u64 n] cs (fun v cs' => v = str (decF (f + 1) n) ∧ cs' = cs) := by
  have hl := decF_len f (n / 10)
  refine Spec.of_body Tryd.func37 rfl Tryd.ntmps37 rfl ?_
  refine H.seq ?_
  refine H.region ?_
  refine Ops.quiet (Qt.assign rfl) rfl ?_
  refine Ops.nil ?_
  refine H.then_normal ?_
  refine H.seq ?_
  refine H.seq ?_
  refine H.region ?_
  refine Ops.quiet (Qt.move rfl) rfl ?_
  refine Ops.quiet (Qt.lss rfl rfl) rfl ?_
  refine Ops.nil ?_
  refine H.then_normal ?_
  refine H.cond rfl (fun h4 => ?_) (fun h4 => ?_)
  · try simp only [decide_eq_true_eq, decide_eq_false_iff_not, beq_iff_eq, beq_eq_false_iff_ne, bne_iff_ne, ne_eq, Bool.not_eq_true', Bool.not_eq_false', bne_eq_false_iff_eq, Bool.not_eq_eq_eq_not, Bool.not_true, Bool.not_false] at h4
    refine H.seq ?_
    refine H.region ?_
    refine Ops.quiet (Qt.move rfl) rfl ?_
    refine Ops.quiet (Qt.conv_k rfl (tk rfl) (tk rfl) (by first | exact IntWalk.i64_in _ (by omega) | exact IntWalk.u8_in _ (by omega) | exact IntWalk.u64_in _ (by omega) | exact IntWalk.u32_in _ (by omega) | exact IntWalk.u16_in _ (by omega))) rfl ?_
    refine Ops.quiet (Qt.cast (Qt.addk rfl rfl (by first | exact IntWalk.i64_in _ (by omega) | exact IntWalk.u8_in _ (by omega) | exact IntWalk.u64_in _ (by omega) | exact IntWalk.u32_in _ (by omega) | exact IntWalk.u16_in _ (by omega))) (u8_of (by omega) (by omega))) rfl ?_
    refine Ops.eff (Ef.buildSlice (tk rfl) (tk rfl) rfl (zk rfl) rfl rfl rfl (by repeat (first | exact ones_nil | refine ones_cons rfl ?_))) rfl ?_
    rintro _ _ ⟨A8, c8, rfl, rfl⟩
    refine Ops.quiet (Qt.bytes_str (l := [UInt8.ofNat (48 + (n : Int)).toNat]) rfl (tk rfl) (tk rfl) (tk rfl) (by repeat (first | assumption | exact Reads.of_head | apply Reads.tail))) rfl ?_
    refine Ops.quiet (Qt.assign rfl) rfl ?_
    refine Ops.nil ?_
    refine H.then_normal ?_
    refine H.ret ?_
    refine H.then_ret ?_
    refine (H.ends_to (cs' := cs) rfl (.cons (.tmp rfl) .nil) (fun w hw => ?_) ?_)
    · exact hw.sub (by repeat (first | exact List.Sublist.refl _ | exact List.nil_sublist _ | apply List.Sublist.cons_cons | apply List.Sublist.cons))
    · refine ⟨?_, rfl⟩
      have e1 : (48 + (n : Int)).toNat = 48 + n := by omega
      simp only [retV, decF, e1]
      rw [if_pos (by omega)]
  · try simp only [decide_eq_true_eq, decide_eq_false_iff_not, beq_iff_eq, beq_eq_false_iff_ne, bne_iff_ne, ne_eq, Bool.not_eq_true', Bool.not_eq_false', bne_eq_false_iff_eq, Bool.not_eq_eq_eq_not, Bool.not_true, Bool.not_false] at h4
    refine H.skip ?_
    refine H.then_normal ?_
    refine H.seq ?_
    have hq' := hq (by omega)
    refine H.drawn_all 9 mixed (by kernel_rfl) ?_
    refine Hd.quiet 0 (by kernel_rfl) rfl rfl (by kernel_rfl) rfl (Qt.move rfl) ?_
    refine Hd.quiet 1 (by kernel_rfl) rfl rfl (by kernel_rfl) rfl (Qt.quoP rfl rfl (by omega) (by omega) (by first | exact IntWalk.i64_in _ (by omega) | exact IntWalk.u8_in _ (by omega) | exact IntWalk.u64_in _ (by omega) | exact IntWalk.u32_in _ (by omega) | exact IntWalk.u16_in _ (by omega))) ?_
    refine Hd.quiet 3 (by kernel_rfl) rfl rfl (by kernel_rfl) rfl (Qt.move rfl) ?_
    refine Hd.quiet 4 (by kernel_rfl) rfl rfl (by kernel_rfl) rfl (Qt.remP rfl rfl (by omega) (by omega)) ?_
    refine Hd.quiet 5 (by kernel_rfl) rfl rfl (by kernel_rfl) rfl (Qt.conv_k rfl (tk rfl) (tk rfl) (by first | exact IntWalk.i64_in _ (by omega) | exact IntWalk.u8_in _ (by omega) | exact IntWalk.u64_in _ (by omega) | exact IntWalk.u32_in _ (by omega) | exact IntWalk.u16_in _ (by omega))) ?_
    refine Hd.quiet 6 (by kernel_rfl) rfl rfl (by kernel_rfl) rfl (Qt.cast (Qt.addk rfl rfl (by first | exact IntWalk.i64_in _ (by omega) | exact IntWalk.u8_in _ (by omega) | exact IntWalk.u64_in _ (by omega) | exact IntWalk.u32_in _ (by omega) | exact IntWalk.u16_in _ (by omega))) (u8_of (by omega) (by omega))) ?_
    refine Hd.eff2 2 7 (by intro w hw; first | exact hw | exact Own.sub (by repeat (first | exact List.Sublist.refl _ | exact List.nil_sublist _ | apply List.Sublist.cons_cons | apply List.Sublist.cons)) hw) rfl rfl (by kernel_rfl) (by kernel_rfl) (by kernel_rfl) rfl rfl (Ef.call (fok fab_all rfl Tryd.func37 rfl) rfl (hq' _)) (Ef.buildSlice (tk rfl) (tk rfl) rfl (zk rfl) rfl rfl rfl (by repeat (first | exact ones_nil | refine ones_cons rfl ?_))) ?_ ?_
    · rintro _ x ⟨rfl, hx⟩; subst x
      refine Hd.eff 7 (by intro w hw; first | exact hw | exact Own.sub (by repeat (first | exact List.Sublist.refl _ | exact List.nil_sublist _ | apply List.Sublist.cons_cons | apply List.Sublist.cons)) hw) rfl rfl (by kernel_rfl) rfl (Ef.buildSlice (tk rfl) (tk rfl) rfl (zk rfl) rfl rfl rfl (by repeat (first | exact ones_nil | refine ones_cons rfl ?_))) ?_
      rintro _ _ ⟨A17, c17, rfl, rfl⟩
      refine Hd.eff 8 (by intro w hw; first | exact hw | exact Own.sub (by repeat (first | exact List.Sublist.refl _ | exact List.nil_sublist _ | apply List.Sublist.cons_cons | apply List.Sublist.cons)) hw) rfl rfl (by kernel_rfl) rfl (Qt.ef (Qt.bytes_str (l := [UInt8.ofNat (48 + (n : Int) % 10).toNat]) rfl (tk rfl) (tk rfl) (tk rfl) (by repeat (first | assumption | exact Reads.of_head | apply Reads.tail)))) ?_
      rintro _ c0 ⟨rfl, h0⟩; subst c0
      refine Hd.tail (by intro w hw; first | exact hw | exact Own.sub (by repeat (first | exact List.Sublist.refl _ | exact List.nil_sublist _ | apply List.Sublist.cons_cons | apply List.Sublist.cons)) hw) (by kernel_rfl) rfl ?_
      refine Ops.quiet (Qt.cat rfl rfl (by (try simp only [List.length_append, List.length_cons, List.length_nil]); omega)) rfl ?_
      refine Ops.quiet (Qt.assign rfl) rfl ?_
      refine Ops.nil ?_
      refine H.then_normal ?_
      refine H.ret ?_
      refine (H.ends_to (cs' := cs) rfl (.cons (.tmp rfl) .nil) (fun w hw => ?_) ?_)
      · exact hw.sub (by repeat (first | exact List.Sublist.refl _ | exact List.nil_sublist _ | apply List.Sublist.cons_cons | apply List.Sublist.cons))
      · refine ⟨?_, rfl⟩
        have e1 : (48 + (n : Int) % 10).toNat = 48 + n % 10 := by omega
        simp only [retV, decF, e1]
        rw [if_neg (by omega)]
    · rintro _ _ ⟨A17, c17, rfl, rfl⟩
      refine Hd.eff2 2 8 (by intro w hw; first | exact hw | exact Own.sub (by repeat (first | exact List.Sublist.refl _ | exact List.nil_sublist _ | apply List.Sublist.cons_cons | apply List.Sublist.cons)) hw) rfl rfl (by kernel_rfl) (by kernel_rfl) (by kernel_rfl) rfl rfl (Ef.call (fok fab_all rfl Tryd.func37 rfl) rfl (hq' _)) (Qt.ef (Qt.bytes_str (l := [UInt8.ofNat (48 + (n : Int) % 10).toNat]) rfl (tk rfl) (tk rfl) (tk rfl) (by repeat (first | assumption | exact Reads.of_head | apply Reads.tail)))) ?_ ?_
      · rintro _ _ ⟨rfl, rfl⟩
        refine Hd.eff 8 (by intro w hw; first | exact hw | exact Own.sub (by repeat (first | exact List.Sublist.refl _ | exact List.nil_sublist _ | apply List.Sublist.cons_cons | apply List.Sublist.cons)) hw) rfl rfl (by kernel_rfl) rfl (Qt.ef (Qt.bytes_str (l := [UInt8.ofNat (48 + (n : Int) % 10).toNat]) rfl (tk rfl) (tk rfl) (tk rfl) (by repeat (first | assumption | exact Reads.of_head | apply Reads.tail)))) ?_
        rintro _ c0 ⟨rfl, h0⟩; subst c0
        refine Hd.tail (by intro w hw; first | exact hw | exact Own.sub (by repeat (first | exact List.Sublist.refl _ | exact List.nil_sublist _ | apply List.Sublist.cons_cons | apply List.Sublist.cons)) hw) (by kernel_rfl) rfl ?_
        refine Ops.quiet (Qt.cat rfl rfl (by (try simp only [List.length_append, List.length_cons, List.length_nil]); omega)) rfl ?_
        refine Ops.quiet (Qt.assign rfl) rfl ?_
        refine Ops.nil ?_
        refine H.then_normal ?_
        refine H.ret ?_
        refine (H.ends_to (cs' := cs) rfl (.cons (.tmp rfl) .nil) (fun w hw => ?_) ?_)
        · exact hw.sub (by repeat (first | exact List.Sublist.refl _ | exact List.nil_sublist _ | apply List.Sublist.cons_cons | apply List.Sublist.cons))
        · refine ⟨?_, rfl⟩
          have e1 : (48 + (n : Int) % 10).toNat = 48 + n % 10 := by omega
          simp only [retV, decF, e1]
          rw [if_neg (by omega)]
      · rintro _ _ ⟨rfl, rfl⟩
        refine Hd.eff 2 (by intro w hw; first | exact hw | exact Own.sub (by repeat (first | exact List.Sublist.refl _ | exact List.nil_sublist _ | apply List.Sublist.cons_cons | apply List.Sublist.cons)) hw) rfl rfl (by kernel_rfl) rfl (Ef.call (fok fab_all rfl Tryd.func37 rfl) rfl (hq' _)) ?_
        rintro _ c0 ⟨rfl, h0⟩; subst c0
        refine Hd.tail (by intro w hw; first | exact hw | exact Own.sub (by repeat (first | exact List.Sublist.refl _ | exact List.nil_sublist _ | apply List.Sublist.cons_cons | apply List.Sublist.cons)) hw) (by kernel_rfl) rfl ?_
        refine Ops.quiet (Qt.cat rfl rfl (by (try simp only [List.length_append, List.length_cons, List.length_nil]); omega)) rfl ?_
        refine Ops.quiet (Qt.assign rfl) rfl ?_
        refine Ops.nil ?_
        refine H.then_normal ?_
        refine H.ret ?_
        refine (H.ends_to (cs' := cs) rfl (.cons (.tmp rfl) .nil) (fun w hw => ?_) ?_)
        · exact hw.sub (by repeat (first | exact List.Sublist.refl _ | exact List.nil_sublist _ | apply List.Sublist.cons_cons | apply List.Sublist.cons))
        · refine ⟨?_, rfl⟩
          have e1 : (48 + (n : Int) % 10).toNat = 48 + n % 10 := by omega
          simp only [retV, decF, e1]
          rw [if_neg (by omega)]
theorem spec_udec (w0 : World) : ∀ (f n : Nat), n < 10 ^ (f + 1) → f ≤ 20 → n ≤ 18446744073709551615 → ∀ cs, Spec Tryd.prog w0 37 [.int .u64 n] cs (fun v cs' => v = str (decF (f + 1) n) ∧ cs' = cs)
  | 0, n, h, hf, hm, cs => udec_step w0 0 n hm hf (fun h10 => by simp at h; omega) cs
  | f + 1, n, h, hf, hm, cs => udec_step w0 (f + 1) n hm (by omega) (fun _ => spec_udec w0 f (n / 10) (by have : 10 ^ (f + 2) = 10 ^ (f + 1) * 10 := Nat.pow_succ ..; omega) (by omega) (by omega)) cs
theorem spec_dec (w0 : World) (n : Nat) (h : n < 10000000000000000000) (cs : List SProp) : Spec Tryd.prog w0 19 [num n] cs (fun v cs' => v = str (decB n) ∧ cs' = cs) := by
  refine Spec.of_body Tryd.func19 rfl Tryd.ntmps19 rfl ?_
  refine H.seq ?_
  refine H.region ?_
  refine Ops.quiet (Qt.assign rfl) rfl ?_
  refine Ops.nil ?_
  refine H.then_normal ?_
  refine H.seq ?_
  refine H.seq ?_
  refine H.region ?_
  refine Ops.quiet (Qt.move rfl) rfl ?_
  refine Ops.quiet (Qt.lss rfl rfl) rfl ?_
  refine Ops.nil ?_
  refine H.then_normal ?_
  refine H.cond_false rfl (by exact decide_eq_false (by omega)) ?_
  refine H.skip ?_
  refine H.then_normal ?_
  refine H.seq ?_
  refine H.region ?_
  refine Ops.quiet (Qt.move rfl) rfl ?_
  refine Ops.quiet (Qt.conv_k rfl (tk rfl) (tk rfl) (by first | exact IntWalk.i64_in _ (by omega) | exact IntWalk.u8_in _ (by omega) | exact IntWalk.u64_in _ (by omega) | exact IntWalk.u32_in _ (by omega) | exact IntWalk.u16_in _ (by omega))) rfl ?_
  refine Ops.eff (Ef.call (fok fab_all rfl Tryd.func37 rfl) rfl (spec_udec w0 19 n (by omega) (by omega) (by omega) _)) rfl ?_
  rintro _ c0 ⟨rfl, h0⟩; subst c0
  refine Ops.quiet (Qt.assign rfl) rfl ?_
  refine Ops.nil ?_
  refine H.then_normal ?_
  refine H.ret ?_
  refine (H.ends rfl (.cons (.tmp rfl) .nil) ?_)
  exact ⟨rfl, rfl⟩
end Go.Proofs.YtimldpbddkhedaaDoor
