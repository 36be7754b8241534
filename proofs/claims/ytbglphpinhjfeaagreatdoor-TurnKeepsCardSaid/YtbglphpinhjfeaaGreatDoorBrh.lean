/- More of the library's contracts as specifications: strings.Cut, Split, CutPrefix, strconv.Itoa, slices.ContainsFunc. -/
import Derived.Test.YtbglphpinhjfeaaGreatDoorRdr
import Derived.Test.YtbglphpinhjfeaaGreatDoorOpv
import Derived.Lib.LaidTab
import Derived.Lib.ItoaNum
import Derived.Lib.SplitLaws
import Derived.Sort.Grow
namespace Go.Proofs.YtbglphpinhjfeaaGreatDoor
open Go Go.RowKit
set_option maxRecDepth 100000
set_option linter.unusedVariables false
theorem Own.grow {w0 w : World} {cs : List SProp} (h : Own w0 w cs) (os : Array Obj) : Own w0 (Go.Sort.grow w os) cs :=
  h.same ⟨rfl, rfl, rfl, by simp, fun k hk _ => Go.Sort.heap_grow_old w os hk⟩
/-- The table of the powers of ten. -/
structure Gp (w0 : World) : Prop where
  gl : Gl w0
  pow : Lib.TabIs Tryz.prog w0 "internal/strconv.uint64pow10" .u64 Lib.pow10Tab
theorem Own.tab {P : Program} {w0 w : World} {cs : List SProp} (ho : Own w0 w cs) {name : String} {k : IntKind} {zs : List Int} (h : Lib.TabIs P w0 name k zs) : Lib.TabIs P w name k zs := by
  unfold Lib.TabIs World.var? at h ⊢
  cases hg : P.globalNamed name with
  | none => rw [hg] at h; simp at h
  | some g =>
    rw [hg] at h
    simp only [Option.bind_some] at h ⊢
    have hlt : g < w0.heap.size := by
      cases hh : w0.heap[g]? with
      | none => rw [hh] at h; cases h
      | some o => exact (Array.getElem?_eq_some_iff.1 hh).1
    rw [ho.below.block g hlt]
    exact h
theorem spec_itoa {w0 : World} (hG : Gp w0) {cs : List SProp} (n : Int) (h0 : -9223372036854775808 ≤ n) (h1 : n ≤ 9223372036854775807) :
    Spec Tryz.prog w0 30 [num n] cs (fun v cs' => v = str (Lib.itoa n) ∧ cs' = cs) := by
  intro w ho
  refine (Tryz.strconv_Itoa n h0 h1 w (ho.tab hG.pow)).mono fun e w' ⟨he, k, os, hw⟩ => ⟨_, cs, he, ⟨rfl, rfl⟩, ?_⟩
  rw [hw]
  exact (ho.drewN k).grow os
theorem spec_scut {w0 : World} (hG : Gl w0) {cs : List SProp} (s sep : Bs) (hs : s.length < 4294967281) :
    Spec Tryz.prog w0 63 [str s, str sep] cs (fun v cs' => v = .tuple #[str (Lib.cut s sep).1, str (Lib.cut s sep).2.1, bol (Lib.cut s sep).2.2] ∧ cs' = cs) := by
  refine Spec.of_drawn fun w ho => ?_
  obtain ⟨m, hm⟩ := hG.maxLen
  exact Tryz.strings_Cut ⟨⟨s⟩⟩ ⟨⟨sep⟩⟩ m w hs (ho.base_cell hm)
theorem split_strs (s sep : ByteArray) (h1 : 1 ≤ sep.size) (k : Nat) (hk : Lib.countB s sep = k) : (Lib.splitB sep 0 k s).map Value.string = (Lib.split s.data.toList sep.data.toList).map str ∧ (Lib.split s.data.toList sep.data.toList).length = k + 1 := by
  have e1 := Lib.splitB_data sep 0 k s
  have e2 : Lib.split s.data.toList sep.data.toList = Lib.splitK sep.data.toList 0 k s.data.toList := by rw [← hk]; rfl
  have e3 := Lib.splitB_all sep h1 0 k s hk
  rw [e2, ← e1]
  refine ⟨?_, by rw [List.length_map, e3]⟩
  rw [List.map_map]
  apply List.map_congr_left
  intro b _
  show Value.string b = .string ⟨⟨b.data.toList⟩⟩
  rw [ba_eq]
theorem spec_ssplit {w0 : World} (hG : Gl w0) {cs : List SProp} (s sep : Bs) (hs : s.length < 4294967281) (h1 : 1 ≤ sep.length) :
    Spec Tryz.prog w0 111 [str s, str sep] cs (fun v cs' => ∃ A, v = .slice A (Lib.split s sep).length (Lib.split s sep).length ∧ cs' = osl 9 A (Lib.split s sep).length (Lib.split s sep).length ((Lib.split s sep).map str) :: cs) := by
  intro w ho
  obtain ⟨m, hm⟩ := hG.maxLen
  obtain ⟨e1, e2⟩ := split_strs ⟨⟨s⟩⟩ ⟨⟨sep⟩⟩ h1 _ rfl
  refine (Tryz.strings_Split ⟨⟨s⟩⟩ ⟨⟨sep⟩⟩ m w hs (ho.base_cell hm) h1).mono fun e w' ⟨he, hw⟩ => ⟨_, _, he, ⟨some ⟨w.heap.size, 0, none⟩, ?_, rfl⟩, ?_⟩
  · rw [e2]
  · rw [hw, e1]
    have hc : Lib.countB ⟨⟨s⟩⟩ ⟨⟨sep⟩⟩ ≤ s.length := by
      exact Lib.countB_le ⟨⟨sep⟩⟩ h1 s.length ⟨⟨s⟩⟩ (Nat.le_refl _)
    refine Own.new_osl (by rw [List.length_map]) (Nat.le_refl _) ?_ (by rw [List.length_map]) (by rw [List.take_of_length_le (by rw [List.length_map]; exact Nat.le_refl _)]) (ones_map (fun _ => rfl) _) ho
    rw [e2]
    simp only [maxLen]
    omega
theorem spec_lhasprefix {w0 : World} {cs : List SProp} (l p : List UInt8) :
    Spec Tryz.prog w0 62 [str l, str p] cs (fun v cs' => v = .bool (Lib.hasPrefix l p) ∧ cs' = cs) :=
  Spec.of_same fun w ho => Tryz.stringslite_HasPrefix ⟨⟨l⟩⟩ ⟨⟨p⟩⟩ w
theorem hasPrefix_len {s p : Bs} (h : Lib.hasPrefix s p = true) : p.length ≤ s.length := by
  have : p.isPrefixOf s = true := h
  exact (List.isPrefixOf_iff_prefix.1 this).length_le
def cutPre (s p : Bs) : Bs := if Lib.hasPrefix s p = true then s.drop p.length else s
set_option linter.unusedSimpArgs false
attribute [local irreducible] Go.wpList Go.Code.wp Go.Exit.then Go.Exit.inBlock Go.Exit.noGoto Ends blk osl oblk LoopI Own Spec
theorem spec_lcutprefix {w0 : World} {cs : List SProp} (s p : Bs) :
    Spec Tryz.prog w0 77 [str s, str p] cs (fun v cs' => v = .tuple #[str (cutPre s p), bol (Lib.hasPrefix s p)] ∧ cs' = cs) := by
  refine Spec.of_body Tryz.func77 rfl Tryz.ntmps77 rfl ?_
  refine H.seq ?_
  refine H.region ?_
  refine Ops.quiet (Qt.assign rfl) rfl ?_
  refine Ops.quiet (Qt.assign rfl) rfl ?_
  refine Ops.nil ?_
  refine H.then_normal ?_
  refine H.seq ?_
  refine H.seq ?_
  refine H.region ?_
  refine Ops.quiet (Qt.move rfl) rfl ?_
  refine Ops.quiet (Qt.move rfl) rfl ?_
  refine Ops.eff (Ef.call (fok fab_all rfl Tryz.func62 rfl) rfl (spec_lhasprefix s p)) rfl ?_
  rintro _ c0 ⟨rfl, h0⟩; subst c0
  refine Ops.quiet (Qt.not rfl) rfl ?_
  refine Ops.nil ?_
  refine H.then_normal ?_
  refine H.cond rfl (fun h9 => ?_) (fun h9 => ?_)
  · try simp only [decide_eq_true_eq, decide_eq_false_iff_not, beq_iff_eq, beq_eq_false_iff_ne, bne_iff_ne, ne_eq, Bool.not_eq_true', Bool.not_eq_false', bne_eq_false_iff_eq, Bool.not_eq_eq_eq_not, Bool.not_true, Bool.not_false] at h9
    refine H.seq ?_
    refine H.region ?_
    refine Ops.quiet (Qt.move rfl) rfl ?_
    refine Ops.quiet (Qt.assign rfl) rfl ?_
    refine Ops.quiet (Qt.assign rfl) rfl ?_
    refine Ops.nil ?_
    refine H.then_normal ?_
    refine H.ret ?_
    refine H.then_ret ?_
    have hh : Lib.hasPrefix s p = false := by simpa using h9
    refine (H.ends rfl (.cons (.tmp rfl) (.cons (.tmp rfl) .nil)) ?_)
    refine ⟨?_, rfl⟩
    simp [retV, cutPre, hh]
  · try simp only [decide_eq_true_eq, decide_eq_false_iff_not, beq_iff_eq, beq_eq_false_iff_ne, bne_iff_ne, ne_eq, Bool.not_eq_true', Bool.not_eq_false', bne_eq_false_iff_eq, Bool.not_eq_eq_eq_not, Bool.not_true, Bool.not_false] at h9
    refine H.skip ?_
    refine H.then_normal ?_
    refine H.seq ?_
    have hh : Lib.hasPrefix s p = true := by simpa using h9
    have hl := hasPrefix_len hh
    refine H.region ?_
    refine Ops.quiet (Qt.move rfl) rfl ?_
    refine Ops.quiet (Qt.move rfl) rfl ?_
    refine Ops.quiet (Qt.len_str rfl (tk rfl)) rfl ?_
    refine Ops.quiet (Qt.sslice rfl (tk rfl) rfl rfl (by omega) (by omega) (by omega)) rfl ?_
    refine Ops.quiet (Qt.assign rfl) rfl ?_
    refine Ops.quiet (Qt.assign rfl) rfl ?_
    refine Ops.nil ?_
    refine H.then_normal ?_
    refine H.ret ?_
    refine (H.ends rfl (.cons (.tmp rfl) (.cons (.tmp rfl) .nil)) ?_)
    refine ⟨?_, rfl⟩
    simp [retV, cutPre, hh, List.take_of_length_le]
theorem spec_cutprefix {w0 : World} {cs : List SProp} (s p : Bs) :
    Spec Tryz.prog w0 61 [str s, str p] cs (fun v cs' => v = .tuple #[str (cutPre s p), bol (Lib.hasPrefix s p)] ∧ cs' = cs) := by
  refine Spec.of_body Tryz.func61 rfl Tryz.ntmps61 rfl ?_
  refine H.seq ?_
  refine H.region ?_
  refine Ops.quiet (Qt.assign rfl) rfl ?_
  refine Ops.quiet (Qt.assign rfl) rfl ?_
  refine Ops.nil ?_
  refine H.then_normal ?_
  refine H.seq ?_
  refine H.region ?_
  refine Ops.quiet (Qt.move rfl) rfl ?_
  refine Ops.quiet (Qt.move rfl) rfl ?_
  refine Ops.eff (Ef.call (fok fab_all rfl Tryz.func77 rfl) rfl (spec_lcutprefix s p)) rfl ?_
  rintro _ c0 ⟨rfl, h0⟩; subst c0
  refine Ops.quiet (Qt.extract rfl rfl) rfl ?_
  refine Ops.quiet (Qt.extract rfl rfl) rfl ?_
  refine Ops.quiet (Qt.assign rfl) rfl ?_
  refine Ops.quiet (Qt.assign rfl) rfl ?_
  refine Ops.nil ?_
  refine H.then_normal ?_
  refine H.ret ?_
  refine (H.ends rfl (.cons (.tmp rfl) (.cons (.tmp rfl) .nil)) ?_)
  exact ⟨rfl, rfl⟩
/-- slices.ContainsFunc, where the function says of each element what p says, and leaves memory alone. -/
def FnOk (P : Program) (w0 : World) {α : Type} (k : FuncId) (first cap : Array Value) (f : α → Value) (p : α → Bool) (l : List α) : Prop :=
  ∀ x ∈ l, ∀ cs, Spec P w0 k (first.toList ++ [f x] ++ cap.toList) cs (fun v cs' => v = bol (p x) ∧ cs' = cs)
theorem any_take_succ {α : Type} (p : α → Bool) (l : List α) (k : Nat) (h : k < l.length) : (l.take (k + 1)).any p = ((l.take k).any p || p l[k]) := by
  rw [List.take_succ_eq_append_getElem h, List.any_append]; simp
theorem spec_sindexfunc {w0 : World} {cs : List SProp} {A : Option Addr} {n c k : Nat} {l : List Bs} {p : Bs → Bool} {first cap : Array Value} (hr : Reads w0 cs A n c (l.map str)) (hF : FOk Tryz.prog k) (hf : FnOk Tryz.prog w0 k first cap str p l) :
    Spec Tryz.prog w0 67 [.slice A n c, .func (.func k) first cap] cs (fun v cs' => ∃ i : Int, v = num i ∧ (decide (0 ≤ i) = l.any p) ∧ cs' = cs) := by
  refine Spec.of_body Tryz.func67 rfl Tryz.ntmps67 rfl ?_
  refine H.fact (fun w hw => (hr w hw).facts) fun ⟨hl, hcap, hmax, hnil⟩ => ?_
  simp only [List.length_map] at hl
  refine H.seq ?_
  refine H.region ?_
  refine Ops.quiet (Qt.assign rfl) rfl ?_
  refine Ops.nil ?_
  refine H.then_normal ?_
  refine H.seq ?_
  refine H.seq ?_
  refine H.region ?_
  refine Ops.quiet (Qt.move rfl) rfl ?_
  refine Ops.quiet (Qt.len_sl (ats := #[]) rfl (tk rfl)) rfl ?_
  refine Ops.quiet (Qt.move rfl) rfl ?_
  refine Ops.nil ?_
  refine H.then_normal ?_
  refine H.block ?_
  refine H.loop (X := Nat) (fun i => [(0, .slice A n c), (1, .func (.func k) first cap), (7, num n), (8, num i)]) (fun i => cs) (fun i => i ≤ n ∧ (l.take i).any p = false) (fun i => n - i) 0 ⟨Nat.zero_le _, rfl⟩ (by repeat (first | exact trivial | refine ⟨rfl, ?_⟩)) (fun w hw => hw) ?_
  intro i ⟨hi, ha⟩
  refine H.seq ?_
  refine H.region ?_
  refine Ops.quiet (Qt.lss rfl rfl) rfl ?_
  refine Ops.nil ?_
  refine H.then_normal ?_
  refine H.seq ?_
  refine H.cond rfl (fun h9 => ?_) (fun h9 => ?_)
  · try simp only [decide_eq_true_eq, decide_eq_false_iff_not, beq_iff_eq, beq_eq_false_iff_ne, bne_iff_ne, ne_eq, Bool.not_eq_true', Bool.not_eq_false', bne_eq_false_iff_eq, Bool.not_eq_eq_eq_not, Bool.not_true, Bool.not_false] at h9
    refine H.skip ?_
    refine H.then_normal ?_
    refine H.seq ?_
    refine H.block ?_
    refine H.seq ?_
    refine H.region ?_
    refine Ops.quiet (Qt.move rfl) rfl ?_
    refine Ops.quiet (Qt.assign rfl) rfl ?_
    refine Ops.nil ?_
    refine H.then_normal ?_
    refine H.seq ?_
    have hi2 : i < l.length := by omega
    have hm : l[i] ∈ l := List.getElem_mem hi2
    have hg : l.getD (i : Int).toNat [] = l[i] := by show l.getD i [] = _; simp [List.getD_eq_getElem?_getD, hi2]
    have hsu := any_take_succ p l i hi2
    refine H.region ?_
    refine Ops.quiet (Qt.move rfl) rfl ?_
    refine Ops.quiet (Qt.move rfl) rfl ?_
    refine Ops.quiet (Qt.move rfl) rfl ?_
    refine Ops.quiet (Qt.indexAddr rfl rfl (tk rfl) (tk rfl) rfl (by repeat (first | assumption | exact Reads.of_head | apply Reads.tail)) (by omega) (by omega)) rfl ?_
    refine Ops.quiet (Qt.load_map ([] : List UInt8) rfl (tk rfl) rfl (by repeat (first | assumption | exact Reads.of_head | apply Reads.tail)) (by omega)) rfl ?_
    refine Ops.eff (Ef.callv hF rfl rfl (by rw [hg]; exact hf _ hm _)) rfl ?_
    rintro _ c0 ⟨rfl, h0⟩; subst c0
    refine Ops.nil ?_
    refine H.then_normal ?_
    refine H.cond rfl (fun h16 => ?_) (fun h16 => ?_)
    · try simp only [decide_eq_true_eq, decide_eq_false_iff_not, beq_iff_eq, beq_eq_false_iff_ne, bne_iff_ne, ne_eq, Bool.not_eq_true', Bool.not_eq_false', bne_eq_false_iff_eq, Bool.not_eq_eq_eq_not, Bool.not_true, Bool.not_false] at h16
      refine H.seq ?_
      refine H.region ?_
      refine Ops.quiet (Qt.move rfl) rfl ?_
      refine Ops.quiet (Qt.assign rfl) rfl ?_
      refine Ops.nil ?_
      refine H.then_normal ?_
      refine H.ret ?_
      refine H.blk_ret ?_
      refine H.then_ret ?_
      refine H.then_ret ?_
      refine H.blk_ret ?_
      refine H.then_ret ?_
      refine (H.ends rfl (.cons (.tmp rfl) .nil) ?_)
      refine ⟨i, rfl, ?_, rfl⟩
      rw [decide_eq_true (by omega)]
      exact (List.any_eq_true.2 ⟨_, hm, h16⟩).symm
    · try simp only [decide_eq_true_eq, decide_eq_false_iff_not, beq_iff_eq, beq_eq_false_iff_ne, bne_iff_ne, ne_eq, Bool.not_eq_true', Bool.not_eq_false', bne_eq_false_iff_eq, Bool.not_eq_eq_eq_not, Bool.not_true, Bool.not_false] at h16
      refine H.skip ?_
      refine H.blk_normal ?_
      refine H.then_normal ?_
      refine H.region ?_
      refine Ops.quiet (Qt.addk rfl rfl (by first | exact IntWalk.i64_in _ (by omega) | exact IntWalk.u8_in _ (by omega) | exact IntWalk.u64_in _ (by omega) | exact IntWalk.u32_in _ (by omega) | exact IntWalk.u16_in _ (by omega))) rfl ?_
      refine Ops.quiet (Qt.move rfl) rfl ?_
      refine Ops.nil ?_
      refine H.then_normal ?_
      refine H.round (i + 1) ⟨by omega, by rw [hsu, ha, h16]; rfl⟩ (by omega) (by repeat (first | exact trivial | refine ⟨rfl, ?_⟩)) (fun w hw => hw)
  · try simp only [decide_eq_true_eq, decide_eq_false_iff_not, beq_iff_eq, beq_eq_false_iff_ne, bne_iff_ne, ne_eq, Bool.not_eq_true', Bool.not_eq_false', bne_eq_false_iff_eq, Bool.not_eq_eq_eq_not, Bool.not_true, Bool.not_false] at h9
    refine H.exit ?_
    refine H.then_exit ?_
    refine H.then_exit ?_
    refine H.blk_hit ?_
    refine H.then_normal ?_
    refine H.seq ?_
    refine H.region ?_
    refine Ops.quiet (Qt.assign rfl) rfl ?_
    refine Ops.nil ?_
    refine H.then_normal ?_
    refine H.ret ?_
    have e1 : l.take i = l := List.take_of_length_le (by omega)
    rw [e1] at ha
    refine (H.ends rfl (.cons (.tmp rfl) .nil) ?_)
    exact ⟨-1, rfl, by rw [ha]; rfl, rfl⟩
theorem spec_scontainsfunc {w0 : World} {cs : List SProp} {A : Option Addr} {n c k : Nat} {l : List Bs} {p : Bs → Bool} {first cap : Array Value} (hr : Reads w0 cs A n c (l.map str)) (hF : FOk Tryz.prog k) (hf : FnOk Tryz.prog w0 k first cap str p l) :
    Spec Tryz.prog w0 53 [.slice A n c, .func (.func k) first cap] cs (fun v cs' => v = bol (l.any p) ∧ cs' = cs) := by
  refine Spec.of_body Tryz.func53 rfl Tryz.ntmps53 rfl ?_
  refine H.seq ?_
  refine H.region ?_
  refine Ops.quiet (Qt.assign rfl) rfl ?_
  refine Ops.nil ?_
  refine H.then_normal ?_
  refine H.seq ?_
  refine H.region ?_
  refine Ops.quiet (Qt.move rfl) rfl ?_
  refine Ops.quiet (Qt.move rfl) rfl ?_
  refine Ops.eff (Ef.call (fok fab_all rfl Tryz.func67 rfl) rfl (spec_sindexfunc hr hF hf)) rfl ?_
  rintro _ c0 ⟨i, rfl, hi, h0⟩; subst c0
  refine Ops.quiet (Qt.geq rfl rfl) rfl ?_
  refine Ops.quiet (Qt.assign rfl) rfl ?_
  refine Ops.nil ?_
  refine H.then_normal ?_
  refine H.ret ?_
  refine (H.ends rfl (.cons (.tmp rfl) .nil) ?_)
  exact ⟨by rw [← hi]; rfl, rfl⟩
theorem spec_iindexfunc {w0 : World} {cs : List SProp} {A : Option Addr} {n c k : Nat} {l : List Int} {p : Int → Bool} {first cap : Array Value} (hr : Reads w0 cs A n c (l.map num)) (hF : FOk Tryz.prog k) (hf : FnOk Tryz.prog w0 k first cap num p l) :
    Spec Tryz.prog w0 65 [.slice A n c, .func (.func k) first cap] cs (fun v cs' => ∃ i : Int, v = num i ∧ (decide (0 ≤ i) = l.any p) ∧ cs' = cs) := by
  refine Spec.of_body Tryz.func65 rfl Tryz.ntmps65 rfl ?_
  refine H.fact (fun w hw => (hr w hw).facts) fun ⟨hl, hcap, hmax, hnil⟩ => ?_
  simp only [List.length_map] at hl
  refine H.seq ?_
  refine H.region ?_
  refine Ops.quiet (Qt.assign rfl) rfl ?_
  refine Ops.nil ?_
  refine H.then_normal ?_
  refine H.seq ?_
  refine H.seq ?_
  refine H.region ?_
  refine Ops.quiet (Qt.move rfl) rfl ?_
  refine Ops.quiet (Qt.len_sl (ats := #[]) rfl (tk rfl)) rfl ?_
  refine Ops.quiet (Qt.move rfl) rfl ?_
  refine Ops.nil ?_
  refine H.then_normal ?_
  refine H.block ?_
  refine H.loop (X := Nat) (fun i => [(0, .slice A n c), (1, .func (.func k) first cap), (7, num n), (8, num i)]) (fun i => cs) (fun i => i ≤ n ∧ (l.take i).any p = false) (fun i => n - i) 0 ⟨Nat.zero_le _, rfl⟩ (by repeat (first | exact trivial | refine ⟨rfl, ?_⟩)) (fun w hw => hw) ?_
  intro i ⟨hi, ha⟩
  refine H.seq ?_
  refine H.region ?_
  refine Ops.quiet (Qt.lss rfl rfl) rfl ?_
  refine Ops.nil ?_
  refine H.then_normal ?_
  refine H.seq ?_
  refine H.cond rfl (fun h9 => ?_) (fun h9 => ?_)
  · try simp only [decide_eq_true_eq, decide_eq_false_iff_not, beq_iff_eq, beq_eq_false_iff_ne, bne_iff_ne, ne_eq, Bool.not_eq_true', Bool.not_eq_false', bne_eq_false_iff_eq, Bool.not_eq_eq_eq_not, Bool.not_true, Bool.not_false] at h9
    refine H.skip ?_
    refine H.then_normal ?_
    refine H.seq ?_
    refine H.block ?_
    refine H.seq ?_
    refine H.region ?_
    refine Ops.quiet (Qt.move rfl) rfl ?_
    refine Ops.quiet (Qt.assign rfl) rfl ?_
    refine Ops.nil ?_
    refine H.then_normal ?_
    refine H.seq ?_
    have hi2 : i < l.length := by omega
    have hm : l[i] ∈ l := List.getElem_mem hi2
    have hg : l.getD (i : Int).toNat 0 = l[i] := by show l.getD i 0 = _; simp [List.getD_eq_getElem?_getD, hi2]
    have hsu := any_take_succ p l i hi2
    refine H.region ?_
    refine Ops.quiet (Qt.move rfl) rfl ?_
    refine Ops.quiet (Qt.move rfl) rfl ?_
    refine Ops.quiet (Qt.move rfl) rfl ?_
    refine Ops.quiet (Qt.indexAddr rfl rfl (tk rfl) (tk rfl) rfl (by repeat (first | assumption | exact Reads.of_head | apply Reads.tail)) (by omega) (by omega)) rfl ?_
    refine Ops.quiet (Qt.load_map (0 : Int) rfl (tk rfl) rfl (by repeat (first | assumption | exact Reads.of_head | apply Reads.tail)) (by omega)) rfl ?_
    refine Ops.eff (Ef.callv hF rfl rfl (by rw [hg]; exact hf _ hm _)) rfl ?_
    rintro _ c0 ⟨rfl, h0⟩; subst c0
    refine Ops.nil ?_
    refine H.then_normal ?_
    refine H.cond rfl (fun h16 => ?_) (fun h16 => ?_)
    · try simp only [decide_eq_true_eq, decide_eq_false_iff_not, beq_iff_eq, beq_eq_false_iff_ne, bne_iff_ne, ne_eq, Bool.not_eq_true', Bool.not_eq_false', bne_eq_false_iff_eq, Bool.not_eq_eq_eq_not, Bool.not_true, Bool.not_false] at h16
      refine H.seq ?_
      refine H.region ?_
      refine Ops.quiet (Qt.move rfl) rfl ?_
      refine Ops.quiet (Qt.assign rfl) rfl ?_
      refine Ops.nil ?_
      refine H.then_normal ?_
      refine H.ret ?_
      refine H.blk_ret ?_
      refine H.then_ret ?_
      refine H.then_ret ?_
      refine H.blk_ret ?_
      refine H.then_ret ?_
      refine (H.ends rfl (.cons (.tmp rfl) .nil) ?_)
      refine ⟨i, rfl, ?_, rfl⟩
      rw [decide_eq_true (by omega)]
      exact (List.any_eq_true.2 ⟨_, hm, h16⟩).symm
    · try simp only [decide_eq_true_eq, decide_eq_false_iff_not, beq_iff_eq, beq_eq_false_iff_ne, bne_iff_ne, ne_eq, Bool.not_eq_true', Bool.not_eq_false', bne_eq_false_iff_eq, Bool.not_eq_eq_eq_not, Bool.not_true, Bool.not_false] at h16
      refine H.skip ?_
      refine H.blk_normal ?_
      refine H.then_normal ?_
      refine H.region ?_
      refine Ops.quiet (Qt.addk rfl rfl (by first | exact IntWalk.i64_in _ (by omega) | exact IntWalk.u8_in _ (by omega) | exact IntWalk.u64_in _ (by omega) | exact IntWalk.u32_in _ (by omega) | exact IntWalk.u16_in _ (by omega))) rfl ?_
      refine Ops.quiet (Qt.move rfl) rfl ?_
      refine Ops.nil ?_
      refine H.then_normal ?_
      refine H.round (i + 1) ⟨by omega, by rw [hsu, ha, h16]; rfl⟩ (by omega) (by repeat (first | exact trivial | refine ⟨rfl, ?_⟩)) (fun w hw => hw)
  · try simp only [decide_eq_true_eq, decide_eq_false_iff_not, beq_iff_eq, beq_eq_false_iff_ne, bne_iff_ne, ne_eq, Bool.not_eq_true', Bool.not_eq_false', bne_eq_false_iff_eq, Bool.not_eq_eq_eq_not, Bool.not_true, Bool.not_false] at h9
    refine H.exit ?_
    refine H.then_exit ?_
    refine H.then_exit ?_
    refine H.blk_hit ?_
    refine H.then_normal ?_
    refine H.seq ?_
    refine H.region ?_
    refine Ops.quiet (Qt.assign rfl) rfl ?_
    refine Ops.nil ?_
    refine H.then_normal ?_
    refine H.ret ?_
    have e1 : l.take i = l := List.take_of_length_le (by omega)
    rw [e1] at ha
    refine (H.ends rfl (.cons (.tmp rfl) .nil) ?_)
    exact ⟨-1, rfl, by rw [ha]; rfl, rfl⟩
theorem spec_icontainsfunc {w0 : World} {cs : List SProp} {A : Option Addr} {n c k : Nat} {l : List Int} {p : Int → Bool} {first cap : Array Value} (hr : Reads w0 cs A n c (l.map num)) (hF : FOk Tryz.prog k) (hf : FnOk Tryz.prog w0 k first cap num p l) :
    Spec Tryz.prog w0 49 [.slice A n c, .func (.func k) first cap] cs (fun v cs' => v = bol (l.any p) ∧ cs' = cs) := by
  refine Spec.of_body Tryz.func49 rfl Tryz.ntmps49 rfl ?_
  refine H.seq ?_
  refine H.region ?_
  refine Ops.quiet (Qt.assign rfl) rfl ?_
  refine Ops.nil ?_
  refine H.then_normal ?_
  refine H.seq ?_
  refine H.region ?_
  refine Ops.quiet (Qt.move rfl) rfl ?_
  refine Ops.quiet (Qt.move rfl) rfl ?_
  refine Ops.eff (Ef.call (fok fab_all rfl Tryz.func65 rfl) rfl (spec_iindexfunc hr hF hf)) rfl ?_
  rintro _ c0 ⟨i, rfl, hi, h0⟩; subst c0
  refine Ops.quiet (Qt.geq rfl rfl) rfl ?_
  refine Ops.quiet (Qt.assign rfl) rfl ?_
  refine Ops.nil ?_
  refine H.then_normal ?_
  refine H.ret ?_
  refine (H.ends rfl (.cons (.tmp rfl) .nil) ?_)
  exact ⟨by rw [← hi]; rfl, rfl⟩
end Go.Proofs.YtbglphpinhjfeaaGreatDoor
