/- PROVED: SendWell returns true for every input, and each argument reads behind the call as it read before. Conditions: those of its row and card (the listed variables of Go's library start as the program's text lays them). -/
import Derived.Test.YtimldpbddkhedaaDoorCrw
import Derived.Test.YtimldpbddkhedaaDoorSwl
import Derived.ChangeMaps5
namespace Go.Proofs.YtimldpbddkhedaaDoor
open Go.ChangeShapes Go.WideShapes Go.ChangeAt Go.RowKit
set_option maxRecDepth 100000
set_option linter.unusedVariables false
theorem sendWell_met (os : Os) (args : Array Value) : laidMetH Tryd.prog Rows.sendWellRow.laid ((World.doorLaid Tryd.prog 400 os).forCall (fun _ _ => 0) ⟨#[], args, []⟩).memory :=
  laidMetH_of_parts3 (fuel := 8) (laidMet_of_run' 8 (by kernel_rfl) (by kernel_rfl)) (by kernel_rfl) (by kernel_rfl)
theorem sendWell_lifted (os : Os) (started : os.Started) (H : Type) (enc : TypeId × Value → H) :
    ReturnsInHanded {} Tryd.checked os 4 .any (fun w args => (Rows.sendWellSpec.pre enc Tryd.prog Tryd.f4 [] false w args ∧ laidMetH Tryd.prog Rows.sendWellRow.laid w) ∧ sizedMet enc Tryd.prog Tryd.f4 (OpenSpec.ofChange Rows.sendWellSpec) false w args)
      (Rows.sendWellSpec.post enc Tryd.prog Tryd.f4 false true false false) := by
  refine returns_laid_shaped (C := Tryd.checked) (X := fun w _ => laidMetH Tryd.prog Rows.sendWellRow.laid w) (fun _ _ _ hh h => h.of_heap hh) own started (by kernel_rfl) Tryd.func4
    (ChangeSpec.witness_shaped (enc := enc) (C := Tryd.checked) (os := os) (X := fun w _ => laidMetH Tryd.prog Rows.sendWellRow.laid w) false (World.doorLaid Tryd.prog 400 os) #[.slice none 0 0, .slice none 0 0, .int .u8 0] 8 rfl (World.shaped_of_RefB (by kernel_rfl) (by kernel_rfl)) (by kernel_rfl) (by kernel_rfl) (by kernel_rfl) (sendWell_met os _)) ?_
  intro W base args ds gs before hval0 hW _ hwt0 hL hsh
  have hval : ∀ (j : Nat) t v, Tryd.f4.params[j]? = some t → args[j]? = some v → Value.okWide Tryd.prog W .any base t v := hval0
  have hW' := hW
  obtain ⟨p, q, hA0, hV, rfl, hfz, hnd⟩ := hW
  have hA : DataW.TrodAll enc Tryd.prog W 0 (fun _ => true) true Tryd.f4.params.toList args.toList ds p := hA0
  rw [Tryd.params4] at hA hval
  obtain ⟨v1, vs1, d1, ds1, p1, q1, e1, rfl, rfl, t1, hA⟩ := trodAll_cons hA
  obtain ⟨v2, vs2, d2, ds2, p2, q2, rfl, rfl, rfl, t2, hA⟩ := trodAll_cons hA
  obtain ⟨v3, vs3, d3, ds3, p3, q3, rfl, rfl, rfl, t3, hA⟩ := trodAll_cons hA
  obtain ⟨rfl, rfl, rfl⟩ := trodAll_nil hA
  obtain rfl : args = #[v1, v2, v3] := by apply Array.ext'; simpa using e1
  obtain ⟨rfl, rfl⟩ := trodVars_none hV
  simp only [List.append_nil] at hW'
  have hwt : (DataW.weightsEach Tryd.prog [22, 22, 5] [d1, d2, d3]).all (· ≤ reachBytes) = true := by
    have e9 : DataSpec.varTypes Tryd.checked.prog Rows.sendWellSpec.plain = [] := rfl
    have h10 : (DataW.weightsEach Tryd.prog (Tryd.f4.params.toList ++ DataSpec.varTypes Tryd.checked.prog Rows.sendWellSpec.plain) ([d1, d2, d3] ++ [])).all (· ≤ reachBytes) = true := hwt0
    rw [Tryd.params4, e9] at h10
    exact h10
  simp only [DataW.weightsEach, List.all_append, Bool.and_eq_true, List.all_eq_true, reachBytes] at hwt
  obtain ⟨w1, w2, w3, _⟩ := hwt
  have hlt : ∀ x ∈ p1 ++ (p2 ++ (p3)), x.block < W.heap.size := fun x hx => by simpa using hW'.lt x (by simpa using hx)
  have t1k := t1
  have t2k := t2
  have t3k := t3
  obtain ⟨a1, n1, c1, rfl⟩ := okWide_slice Tryd.underlying22 (hval 0 22 v1 rfl rfl)
  obtain ⟨a2, n2, c2, rfl⟩ := okWide_slice Tryd.underlying22 (hval 1 22 v2 rfl rfl)
  obtain ⟨z3, rfl, rfl, rfl, wz3⟩ := open_int Tryd.underlying5 (hval 2 5 v3 rfl rfl) t3
  obtain ⟨f1, h1⟩ := t1
  obtain ⟨x1, hr1, hw1⟩ := open_strl Tryd.underlying22 Tryd.underlying9 (by kernel_rfl) h1
  obtain ⟨f2, h2⟩ := t2
  obtain ⟨x2, hr2, hw2⟩ := open_strl Tryd.underlying22 Tryd.underlying9 (by kernel_rfl) h2
  have hz3 : 0 ≤ z3 ∧ z3 ≤ 255 := by simpa [Lit.wf, IntKind.min, IntKind.max, IntKind.signed, IntKind.bits] using wz3
  refine (Spec.calls (spec_well W (gl_of hsh) x1 x2 z3 [] (hr1 []) (hr2 []) (fun t ht => by have := of_decide_eq_true (w1 _ (hw1 t ht)); simp only [Sm]; omega) (fun t ht => by have := of_decide_eq_true (w2 _ (hw2 t ht)); simp only [Sm]; omega)
    (by
      have e2 := (hr2 [] W (Own.start W)).len
      simp only [List.length_map] at e2
      rcases open_strl_len Tryd.underlying22 Tryd.underlying9 (by kernel_rfl) (by kernel_rfl) h2 with h | ⟨m, hm, hm2⟩
      · omega
      · have := of_decide_eq_true (w2 _ hm); omega) hz3.1 hz3.2)).mono fun e W' ⟨v, cs', he, hr, hnx⟩ => ?_
  obtain rfl := hr
  subst he
  exact ⟨_, rfl, _, _, _, [], _, [], hW', trodAll_mk1 (shut_bool Tryd.underlying4 true), (trodAll_cons_mk (Below.trod laidOut (by kernel_rfl) (of_decide_eq_true (by kernel_rfl)) t1k hnx (fun x hx => by first | (cases hx; done) | exact hlt x (by simp [hx]))) (trodAll_cons_mk (Below.trod laidOut (by kernel_rfl) (of_decide_eq_true (by kernel_rfl)) t2k hnx (fun x hx => by first | (cases hx; done) | exact hlt x (by simp [hx]))) (trodAll_cons_mk (Below.trod laidOut (by kernel_rfl) (of_decide_eq_true (by kernel_rfl)) t3k hnx (fun x hx => by first | (cases hx; done) | exact hlt x (by simp [hx]))) trodAll_mk0))), rfl, hnx.frame _, fun h => by cases h⟩
theorem sendWell_row : Rows.SendWellSaid :=
  OpenClaim.holds_of_wide 4 Tryd.f4 rfl rfl rfl rfl rfl rfl rfl ⟨rfl, rfl, rfl, rfl, rfl⟩ rfl rfl rfl rfl rfl (by kernel_rfl) Tryd.func4 (by kernel_rfl)
    (of_decide_eq_true (by kernel_rfl)) (by unfold Func.isWrapper; first | (rw [if_pos (by decide +kernel)]; kernel_rfl) | (rw [if_neg (by decide +kernel)]; exact ⟨rfl, rfl⟩))
    (fun os started H enc _ => sendWell_lifted os started H enc)
theorem sendWell_card : Rows.SendWellCardSaid :=
  Claim7.holds_tied_plain_at .later [] [.data, .data, .data, .sentinel, .sentinel] true (true, "acf9997c978a5c7f74a9ff95f7b0ba6f4e7d0899b33889babc01de850da953dd") true
    sendWell_row (fun _ h => by cases h) (by kernel_rfl) (fun _ h => by cases h) sendWell_row_tie rfl ⟨rfl, rfl⟩ (by kernel_rfl) rfl
    (fun f fn hf hfn => by
      obtain rfl : f = 4 := Option.some.inj ((show Tryd.prog.funcNamed "estafette/estafettelaw07.SendWell" = some 4 by kernel_rfl).symm.trans hf) |>.symm
      obtain rfl : fn = Tryd.f4 := (Option.some.inj (Tryd.func4.symm.trans hfn)).symm
      exact ⟨by kernel_rfl, fun j t ht => by
        rw [Tryd.params4] at ht
        have hm : t ∈ [22, 22, 5] := by simpa using Array.mem_of_getElem? ht
        have hall : ([22, 22, 5].all fun u => !Tryd.prog.wantsStandIn u) = true := by kernel_rfl
        exact (show Tryd.prog.wantsStandIn t = false by simpa using List.all_eq_true.1 hall t hm)⟩)
    (by kernel_rfl)
#print axioms sendWell_card
end Go.Proofs.YtimldpbddkhedaaDoor
