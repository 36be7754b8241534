/- PROVED: TurnKeeps returns true for every input, and each argument reads behind the call as it read before. Conditions: those of its row and card (the listed variables of Go's library start as the program's text lays them). -/
import Derived.Test.YtbglphpinhjfeaaGreatDoorCrw
import Derived.Test.YtbglphpinhjfeaaGreatDoorCrm
import Derived.Test.YtbglphpinhjfeaaGreatDoorLat
import Derived.ChangeMaps5
namespace Go.Proofs.YtbglphpinhjfeaaGreatDoor
open Go.ChangeShapes Go.WideShapes Go.ChangeAt Go.RowKit
set_option maxRecDepth 100000
set_option linter.unusedVariables false
theorem turnKeeps_met (os : Os) (args : Array Value) : laidMetH Tryz.prog Rows.turnKeepsRow.laid ((World.laidAll Tryz.prog os Rows.turnKeepsRow.laid).forCall (fun _ _ => 0) ⟨#[], args, []⟩).memory :=
  laidMetH_all args (by kernel_rfl) (by kernel_rfl) (by kernel_rfl) (by kernel_rfl)
theorem turnKeeps_lifted (os : Os) (started : os.Started) (H : Type) (enc : TypeId × Value → H) :
    ReturnsInHanded {} Tryz.checked os 4 .any (fun w args => (Rows.turnKeepsSpec.pre enc Tryz.prog Tryz.f4 [] false w args ∧ laidMetH Tryz.prog Rows.turnKeepsRow.laid w) ∧ sizedMet enc Tryz.prog Tryz.f4 (OpenSpec.ofChange Rows.turnKeepsSpec) false w args)
      (Rows.turnKeepsSpec.post enc Tryz.prog Tryz.f4 false true false false) := by
  refine returns_laid_shaped (C := Tryz.checked) (X := fun w _ => laidMetH Tryz.prog Rows.turnKeepsRow.laid w) (fun _ _ _ hh h => h.of_heap hh) own started (by kernel_rfl) Tryz.func4
    (ChangeSpec.witness_shaped (enc := enc) (C := Tryz.checked) (os := os) (X := fun w _ => laidMetH Tryz.prog Rows.turnKeepsRow.laid w) false (World.laidAll Tryz.prog os Rows.turnKeepsRow.laid) #[.agg #[.int .i64 0, .int .i64 0, .int .i64 0, .int .i64 0, .int .i64 0, .string ⟨#[]⟩, .slice none 0 0, .slice none 0 0, .slice none 0 0], .slice none 0 0] 8 (World.laidAll_os _ _ _) (World.shaped_of_ZipB (by kernel_rfl) (by kernel_rfl)) (by kernel_rfl) (by kernel_rfl) (by kernel_rfl) (turnKeeps_met os _)) ?_
  intro W base args ds gs before hval0 hW _ hwt0 hL hsh
  have hval : ∀ (j : Nat) t v, Tryz.f4.params[j]? = some t → args[j]? = some v → Value.okWide Tryz.prog W .any base t v := hval0
  have hW' := hW
  obtain ⟨p, q, hA0, hV, rfl, hfz, hnd⟩ := hW
  have hA : DataW.TrodAll enc Tryz.prog W 0 (fun _ => true) true Tryz.f4.params.toList args.toList ds p := hA0
  rw [Tryz.params4] at hA hval
  obtain ⟨v1, vs1, d1, ds1, p1, q1, e1, rfl, rfl, t1, hA⟩ := trodAll_cons hA
  obtain ⟨v2, vs2, d2, ds2, p2, q2, rfl, rfl, rfl, t2, hA⟩ := trodAll_cons hA
  obtain ⟨rfl, rfl, rfl⟩ := trodAll_nil hA
  obtain rfl : args = #[v1, v2] := by apply Array.ext'; simpa using e1
  obtain ⟨rfl, rfl⟩ := trodVars_none hV
  simp only [List.append_nil] at hW'
  have hwt : (DataW.weightsEach Tryz.prog [25, 28] [d1, d2]).all (· ≤ reachBytes) = true := by
    have e9 : DataSpec.varTypes Tryz.checked.prog Rows.turnKeepsSpec.plain = [] := rfl
    have h10 : (DataW.weightsEach Tryz.prog (Tryz.f4.params.toList ++ DataSpec.varTypes Tryz.checked.prog Rows.turnKeepsSpec.plain) ([d1, d2] ++ [])).all (· ≤ reachBytes) = true := hwt0
    rw [Tryz.params4, e9] at h10
    exact h10
  simp only [DataW.weightsEach, List.all_append, Bool.and_eq_true, List.all_eq_true, reachBytes] at hwt
  obtain ⟨w1, w2, _⟩ := hwt
  have hlt : ∀ x ∈ p1 ++ (p2), x.block < W.heap.size := fun x hx => by simpa using hW'.lt x (by simpa using hx)
  have t1k := t1
  have t2k := t2
  obtain ⟨a2, n2, c2, rfl⟩ := okWide_slice Tryz.underlying28 (hval 1 28 v2 rfl rfl)
  obtain ⟨m1, a1, rfl, hm1, hma1⟩ := open_msg (hval 0 25 v1 rfl rfl) t1 (fun m hm => of_decide_eq_true (w1 m hm))
  obtain ⟨f2, h2⟩ := t2
  obtain ⟨x2, ex2, hr2, hw2⟩ := open_bl Tryz.underlying28 Tryz.underlying5 (by kernel_rfl) (by kernel_rfl) h2
  obtain ⟨A2, k2, q2, l2⟩ := x2
  simp only [slv, Value.slice.injEq] at ex2
  obtain ⟨rfl, rfl, rfl⟩ := ex2
  refine (Spec.calls (spec_keeps W (gp_of hsh hL (by kernel_rfl)) m1 a1 hma1 l2 [] (hm1 []) (hr2 []))).mono fun e W' ⟨v, cs', he, hr, hnx⟩ => ?_
  obtain rfl := hr
  subst he
  exact ⟨_, rfl, _, _, _, [], _, [], hW', trodAll_mk1 (shut_bool Tryz.underlying4 true), (trodAll_cons_mk (Below.trod laidOut (by kernel_rfl) (of_decide_eq_true (by kernel_rfl)) t1k hnx (fun x hx => by first | (cases hx; done) | exact hlt x (by simp [hx]))) (trodAll_cons_mk (Below.trod laidOut (by kernel_rfl) (of_decide_eq_true (by kernel_rfl)) t2k hnx (fun x hx => by first | (cases hx; done) | exact hlt x (by simp [hx]))) trodAll_mk0)), rfl, hnx.frame _, fun h => by cases h⟩
theorem turnKeeps_row : Rows.TurnKeepsSaid :=
  OpenClaim.holds_of_wide 4 Tryz.f4 rfl rfl rfl rfl rfl rfl rfl ⟨rfl, rfl, rfl, rfl, rfl⟩ rfl rfl rfl rfl rfl (by kernel_rfl) Tryz.func4 (by kernel_rfl)
    (of_decide_eq_true (by kernel_rfl)) (by unfold Func.isWrapper; first | (rw [if_pos (by decide +kernel)]; kernel_rfl) | (rw [if_neg (by decide +kernel)]; exact ⟨rfl, rfl⟩))
    (fun os started H enc _ => turnKeeps_lifted os started H enc)
theorem turnKeeps_card : Rows.TurnKeepsCardSaid :=
  Claim7.holds_tied_plain_at .later [] [.data, .data, .data, .data, .sentinel, .sentinel, .pinned] true (true, "33ede5191e7852698cdd1a700454bb54b0b18cf174b5e6e3555d64b66d933773") true
    turnKeeps_row (fun _ h => by cases h) (by kernel_rfl) (fun _ h => by cases h) turnKeeps_row_tie rfl ⟨rfl, rfl⟩ (by kernel_rfl) rfl
    (fun f fn hf hfn => by
      obtain rfl : f = 4 := Option.some.inj ((show Tryz.prog.funcNamed "estafette/estafettelaw13.TurnKeeps" = some 4 by kernel_rfl).symm.trans hf) |>.symm
      obtain rfl : fn = Tryz.f4 := (Option.some.inj (Tryz.func4.symm.trans hfn)).symm
      exact ⟨by kernel_rfl, fun j t ht => by
        rw [Tryz.params4] at ht
        have hm : t ∈ [25, 28] := by simpa using Array.mem_of_getElem? ht
        have hall : ([25, 28].all fun u => !Tryz.prog.wantsStandIn u) = true := by kernel_rfl
        exact (show Tryz.prog.wantsStandIn t = false by simpa using List.all_eq_true.1 hall t hm)⟩)
    (by kernel_rfl)
#print axioms turnKeeps_card
end Go.Proofs.YtbglphpinhjfeaaGreatDoor
