/- PROVED: SendPlays returns true for every input, and each argument reads behind the call as it read before. Conditions: those of its row and card (the listed variables of Go's library start as the program's text lays them). -/
import Derived.Test.YtimldpbddkhedaaDoorCrw
import Derived.ChangeMaps5
namespace Go.Proofs.YtimldpbddkhedaaDoor
open Go.ChangeShapes Go.WideShapes Go.ChangeAt Go.RowKit
set_option maxRecDepth 100000
set_option linter.unusedVariables false
theorem plays_met (os : Os) (args : Array Value) : laidMetH Tryd.prog Rows.sendPlaysRow.laid ((World.doorLaid Tryd.prog 400 os).forCall (fun _ _ => 0) ⟨#[], args, []⟩).memory :=
  laidMetH_of_parts3 (fuel := 8) (laidMet_of_run' 8 (by kernel_rfl) (by kernel_rfl)) (by kernel_rfl) (by kernel_rfl)
theorem plays_lifted (os : Os) (started : os.Started) (H : Type) (enc : TypeId × Value → H) :
    ReturnsInHanded {} Tryd.checked os 3 .any (fun w args => (Rows.sendPlaysSpec.pre enc Tryd.prog Tryd.f3 [] false w args ∧ laidMetH Tryd.prog Rows.sendPlaysRow.laid w) ∧ sizedMet enc Tryd.prog Tryd.f3 (OpenSpec.ofChange Rows.sendPlaysSpec) false w args)
      (Rows.sendPlaysSpec.post enc Tryd.prog Tryd.f3 false true false false) := by
  refine returns_laid_shaped (C := Tryd.checked) (X := fun w _ => laidMetH Tryd.prog Rows.sendPlaysRow.laid w) (fun _ _ _ hh h => h.of_heap hh) own started (by kernel_rfl) Tryd.func3
    (ChangeSpec.witness_shaped (enc := enc) (C := Tryd.checked) (os := os) (X := fun w _ => laidMetH Tryd.prog Rows.sendPlaysRow.laid w) false (World.doorLaid Tryd.prog 400 os) #[.string ⟨#[]⟩, .string ⟨#[]⟩, .slice none 0 0, .slice none 0 0, .slice none 0 0, .int .u8 0] 8 rfl (World.shaped_of_RefB (by kernel_rfl) (by kernel_rfl)) (by kernel_rfl) (by kernel_rfl) (by kernel_rfl) (plays_met os _)) ?_
  intro W base args ds gs before hval0 hW _ hwt0 hL hsh
  have hval : ∀ (j : Nat) t v, Tryd.f3.params[j]? = some t → args[j]? = some v → Value.okWide Tryd.prog W .any base t v := hval0
  have hW' := hW
  obtain ⟨p, q, hA0, hV, rfl, hfz, hnd⟩ := hW
  have hA : DataW.TrodAll enc Tryd.prog W 0 (fun _ => true) true Tryd.f3.params.toList args.toList ds p := hA0
  rw [Tryd.params3] at hA hval
  obtain ⟨v1, vs1, d1, ds1, p1, q1, e1, rfl, rfl, t1, hA⟩ := trodAll_cons hA
  obtain ⟨v2, vs2, d2, ds2, p2, q2, rfl, rfl, rfl, t2, hA⟩ := trodAll_cons hA
  obtain ⟨v3, vs3, d3, ds3, p3, q3, rfl, rfl, rfl, t3, hA⟩ := trodAll_cons hA
  obtain ⟨v4, vs4, d4, ds4, p4, q4, rfl, rfl, rfl, t4, hA⟩ := trodAll_cons hA
  obtain ⟨v5, vs5, d5, ds5, p5, q5, rfl, rfl, rfl, t5, hA⟩ := trodAll_cons hA
  obtain ⟨v6, vs6, d6, ds6, p6, q6, rfl, rfl, rfl, t6, hA⟩ := trodAll_cons hA
  obtain ⟨rfl, rfl, rfl⟩ := trodAll_nil hA
  obtain rfl : args = #[v1, v2, v3, v4, v5, v6] := by apply Array.ext'; simpa using e1
  obtain ⟨rfl, rfl⟩ := trodVars_none hV
  simp only [List.append_nil] at hW'
  have hwt : (DataW.weightsEach Tryd.prog [9, 9, 22, 22, 23, 5] [d1, d2, d3, d4, d5, d6]).all (· ≤ reachBytes) = true := by
    have e9 : DataSpec.varTypes Tryd.checked.prog Rows.sendPlaysSpec.plain = [] := rfl
    have h10 : (DataW.weightsEach Tryd.prog (Tryd.f3.params.toList ++ DataSpec.varTypes Tryd.checked.prog Rows.sendPlaysSpec.plain) ([d1, d2, d3, d4, d5, d6] ++ [])).all (· ≤ reachBytes) = true := hwt0
    rw [Tryd.params3, e9] at h10
    exact h10
  simp only [DataW.weightsEach, List.all_append, Bool.and_eq_true, List.all_eq_true, decide_eq_true_eq, reachBytes] at hwt
  obtain ⟨w1, w2, w3, w4, w5, w6, _⟩ := hwt
  have hlt : ∀ x ∈ p1 ++ (p2 ++ (p3 ++ (p4 ++ (p5 ++ p6)))), x.block < W.heap.size := fun x hx => by simpa using hW'.lt x (by simpa using hx)
  have t1k := t1
  have t2k := t2
  have t3k := t3
  have t4k := t4
  have t5k := t5
  have t6k := t6
  obtain ⟨⟨⟨l1⟩⟩, rfl, rfl, rfl, _⟩ := Go.ChangeMaps.open_string Tryd.underlying9 (hval 0 9 v1 rfl rfl) t1
  obtain ⟨⟨⟨l2⟩⟩, rfl, rfl, rfl, _⟩ := Go.ChangeMaps.open_string Tryd.underlying9 (hval 1 9 v2 rfl rfl) t2
  obtain ⟨a3, n3, c3, rfl⟩ := okWide_slice Tryd.underlying22 (hval 2 22 v3 rfl rfl)
  obtain ⟨a4, n4, c4, rfl⟩ := okWide_slice Tryd.underlying22 (hval 3 22 v4 rfl rfl)
  obtain ⟨a5, n5, c5, rfl⟩ := okWide_slice Tryd.underlying23 (hval 4 23 v5 rfl rfl)
  obtain ⟨z, rfl, rfl, rfl, wz⟩ := open_int Tryd.underlying5 (hval 5 5 v6 rfl rfl) t6
  obtain ⟨f3, h3⟩ := t3
  obtain ⟨f4, h4⟩ := t4
  obtain ⟨f5, h5⟩ := t5
  obtain ⟨targets, hr3, hw3⟩ := open_strl Tryd.underlying22 Tryd.underlying9 (by kernel_rfl) h3
  obtain ⟨body, hr4, hw4⟩ := open_strl Tryd.underlying22 Tryd.underlying9 (by kernel_rfl) h4
  obtain ⟨said, hr5, hw5⟩ := open_bll Tryd.underlying23 Tryd.underlying25 Tryd.underlying5 (by kernel_rfl) (by kernel_rfl) (by kernel_rfl) h5
  have hz : 0 ≤ z ∧ z ≤ 255 := by simpa [Lit.wf, IntKind.min, IntKind.max, IntKind.signed, IntKind.bits] using wz
  have hl1 : l1.length ≤ 140737488351232 := of_decide_eq_true (w1 l1.length (.head _))
  have hl2 : l2.length ≤ 140737488351232 := of_decide_eq_true (w2 l2.length (.head _))
  refine (Spec.calls (spec_plays W (gl_of hsh) l1 l2 targets body said z [] (hr3 []) (hr4 []) (hr5 []) (fun p hp => (hw5 p hp).1 []) (by simp only [Sm]; omega) (by simp only [Sm]; omega)
    (fun t ht => by have := of_decide_eq_true (w3 _ (hw3 t ht)); simp only [Sm]; omega) (fun t ht => by have := of_decide_eq_true (w4 _ (hw4 t ht)); simp only [Sm]; omega)
    (fun p hp => by
      rcases (hw5 p hp).2 with h | ⟨m, hm, hm2⟩
      · simp only [Sm]; omega
      · have := of_decide_eq_true (w5 _ hm); simp only [Sm]; omega) hz.1 hz.2)).mono fun e W' ⟨v, cs', he, hr, hnx⟩ => ?_
  obtain rfl := hr
  subst he
  exact ⟨_, rfl, _, _, _, [], _, [], hW', trodAll_mk1 (shut_bool Tryd.underlying4 true), trodAll_cons_mk (Below.trod laidOut (by kernel_rfl) (of_decide_eq_true (by kernel_rfl)) t1k hnx (fun x hx => by first | (cases hx; done) | exact hlt x (by simp [hx]))) (trodAll_cons_mk (Below.trod laidOut (by kernel_rfl) (of_decide_eq_true (by kernel_rfl)) t2k hnx (fun x hx => by first | (cases hx; done) | exact hlt x (by simp [hx]))) (trodAll_cons_mk (Below.trod laidOut (by kernel_rfl) (of_decide_eq_true (by kernel_rfl)) t3k hnx (fun x hx => by first | (cases hx; done) | exact hlt x (by simp [hx]))) (trodAll_cons_mk (Below.trod laidOut (by kernel_rfl) (of_decide_eq_true (by kernel_rfl)) t4k hnx (fun x hx => by first | (cases hx; done) | exact hlt x (by simp [hx]))) (trodAll_cons_mk (Below.trod laidOut (by kernel_rfl) (of_decide_eq_true (by kernel_rfl)) t5k hnx (fun x hx => by first | (cases hx; done) | exact hlt x (by simp [hx]))) (trodAll_cons_mk (Below.trod laidOut (by kernel_rfl) (of_decide_eq_true (by kernel_rfl)) t6k hnx (fun x hx => by first | (cases hx; done) | exact hlt x (by simp [hx]))) trodAll_mk0))))), rfl, hnx.frame _, fun h => by cases h⟩
theorem sendPlays_row : Rows.SendPlaysSaid :=
  OpenClaim.holds_of_wide 3 Tryd.f3 rfl rfl rfl rfl rfl rfl rfl ⟨rfl, rfl, rfl, rfl, rfl⟩ rfl rfl rfl rfl rfl (by kernel_rfl) Tryd.func3 (by kernel_rfl)
    (of_decide_eq_true (by kernel_rfl)) (by unfold Func.isWrapper; first | (rw [if_pos (by decide +kernel)]; kernel_rfl) | (rw [if_neg (by decide +kernel)]; exact ⟨rfl, rfl⟩))
    (fun os started H enc _ => plays_lifted os started H enc)
theorem sendPlays_card : Rows.SendPlaysCardSaid :=
  Claim7.holds_tied_plain_at .later [] [.data, .data, .data, .sentinel, .sentinel] true (true, "acf9997c978a5c7f74a9ff95f7b0ba6f4e7d0899b33889babc01de850da953dd") true
    sendPlays_row (fun _ h => by cases h) (by kernel_rfl) (fun _ h => by cases h) sendPlays_row_tie rfl ⟨rfl, rfl⟩ (by kernel_rfl) rfl
    (fun f fn hf hfn => by
      obtain rfl : f = 3 := Option.some.inj ((show Tryd.prog.funcNamed "estafette/estafettelaw07.SendPlays" = some 3 by kernel_rfl).symm.trans hf) |>.symm
      obtain rfl : fn = Tryd.f3 := (Option.some.inj (Tryd.func3.symm.trans hfn)).symm
      exact ⟨by kernel_rfl, fun j t ht => by
        rw [Tryd.params3] at ht
        have hm : t ∈ [9, 9, 22, 22, 23, 5] := by simpa using Array.mem_of_getElem? ht
        have hall : ([9, 9, 22, 22, 23, 5].all fun u => !Tryd.prog.wantsStandIn u) = true := by kernel_rfl
        exact (show Tryd.prog.wantsStandIn t = false by simpa using List.all_eq_true.1 hall t hm)⟩)
    (by kernel_rfl)
#print axioms sendPlays_card
end Go.Proofs.YtimldpbddkhedaaDoor
