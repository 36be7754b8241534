/- The laws of the session with the next hop. -/
import Derived.Test.YtimldpbddkhedaaDoorSnw
namespace Go.Proofs.YtimldpbddkhedaaDoor
open Go Go.RowKit
set_option maxRecDepth 100000
set_option linter.unusedVariables false
set_option linter.unusedSimpArgs false
attribute [local irreducible] Go.wpList Go.Code.wp Go.Exit.then Go.Exit.inBlock Go.Exit.noGoto Ends blk osl oblk LoopI Own Spec
theorem Reads.none {w0 : World} {cs : List SProp} : Reads w0 cs none 0 0 [] := fun w ho => ⟨rfl, Nat.le_refl _, by simp [maxLen], fun _ => rfl, fun j x h => by simp at h⟩
abbrev nilp : Value := .pointer none
theorem spec_feed_nil (w0 : World) (v : Value) (cs : List SProp) : Spec Tryd.prog w0 10 [nilp, v] cs (fun u cs' => u = unit ∧ cs' = cs) := by
  refine Spec.of_body Tryd.func10 rfl Tryd.ntmps10 rfl ?_
  refine H.scope ?_
  refine H.seq ?_
  refine H.seq ?_
  refine H.region ?_
  refine Ops.quiet (Qt.move rfl) rfl ?_
  refine Ops.quiet (Qt.ptr_eq_nil rfl (tk rfl)) rfl ?_
  refine Ops.quiet (Qt.move rfl) rfl ?_
  refine Ops.guard rfl rfl rfl rfl (fun g11 => ?_) (fun g11 => ?_)
  · have g11' := g11
    try simp only [decide_eq_true_eq, decide_eq_false_iff_not, beq_iff_eq, beq_eq_false_iff_ne, bne_iff_ne, ne_eq, Bool.not_eq_true', Bool.not_eq_false', bne_eq_false_iff_eq, Bool.not_eq_eq_eq_not, Bool.not_true, Bool.not_false] at g11'
    exact Bool.noConfusion g11
  · have g11' := g11
    try simp only [decide_eq_true_eq, decide_eq_false_iff_not, beq_iff_eq, beq_eq_false_iff_ne, bne_iff_ne, ne_eq, Bool.not_eq_true', Bool.not_eq_false', bne_eq_false_iff_eq, Bool.not_eq_eq_eq_not, Bool.not_true, Bool.not_false] at g11'
    refine Ops.guard_no rfl rfl rfl rfl g11 ?_
    refine Ops.guard_no rfl rfl rfl rfl g11 ?_
    refine Ops.guard_no rfl rfl rfl rfl g11 ?_
    refine Ops.quiet (Qt.pick_t rfl rfl g11) rfl ?_
    refine Ops.nil ?_
    refine H.then_normal ?_
    refine H.cond_true rfl (by rfl) ?_
    refine H.ret ?_
    refine H.then_ret ?_
    refine H.scope_ret ?_
    refine (H.ends rfl (ResAll.nil) ?_)
    exact ⟨rfl, rfl⟩
theorem spec_lost_nil (w0 : World) (cs : List SProp) : Spec Tryd.prog w0 12 [nilp] cs (fun u cs' => u = unit ∧ cs' = cs) := by
  refine Spec.of_body Tryd.func12 rfl Tryd.ntmps12 rfl ?_
  refine H.seq ?_
  refine H.region ?_
  refine Ops.quiet (Qt.move rfl) rfl ?_
  refine Ops.quiet (Qt.ptr_ne_nil rfl (tk rfl)) rfl ?_
  refine Ops.quiet (Qt.move rfl) rfl ?_
  refine Ops.guard rfl rfl rfl rfl (fun g4 => ?_) (fun g4 => ?_)
  · have g4' := g4
    try simp only [decide_eq_true_eq, decide_eq_false_iff_not, beq_iff_eq, beq_eq_false_iff_ne, bne_iff_ne, ne_eq, Bool.not_eq_true', Bool.not_eq_false', bne_eq_false_iff_eq, Bool.not_eq_eq_eq_not, Bool.not_true, Bool.not_false] at g4'
    exact Bool.noConfusion g4
  · have g4' := g4
    try simp only [decide_eq_true_eq, decide_eq_false_iff_not, beq_iff_eq, beq_eq_false_iff_ne, bne_iff_ne, ne_eq, Bool.not_eq_true', Bool.not_eq_false', bne_eq_false_iff_eq, Bool.not_eq_eq_eq_not, Bool.not_true, Bool.not_false] at g4'
    refine Ops.guard_no rfl rfl rfl rfl g4 ?_
    refine Ops.guard_no rfl rfl rfl rfl g4 ?_
    refine Ops.guard_no rfl rfl rfl rfl g4 ?_
    refine Ops.guard_no rfl rfl rfl rfl g4 ?_
    refine Ops.quiet (Qt.pick_f rfl rfl g4) rfl ?_
    refine Ops.nil ?_
    refine H.then_normal ?_
    refine H.cond_false rfl (by rfl) ?_
    refine H.skip ?_
    refine (H.ends_n rfl (ResAll.nil) ?_)
    exact ⟨rfl, rfl⟩
theorem spec_next_nil (w0 : World) (cs : List SProp) : Spec Tryd.prog w0 14 [nilp] cs (fun u cs' => u = .tuple #[str [], bol false] ∧ cs' = cs) := by
  refine Spec.of_body Tryd.func14 rfl Tryd.ntmps14 rfl ?_
  refine H.seq ?_
  refine H.region ?_
  refine Ops.quiet (Qt.assign rfl) rfl ?_
  refine Ops.quiet (Qt.assign rfl) rfl ?_
  refine Ops.nil ?_
  refine H.then_normal ?_
  refine H.seq ?_
  refine H.seq ?_
  refine H.region ?_
  refine Ops.quiet (Qt.move rfl) rfl ?_
  refine Ops.quiet (Qt.ptr_eq_nil rfl (tk rfl)) rfl ?_
  refine Ops.quiet (Qt.move rfl) rfl ?_
  refine Ops.guard rfl rfl rfl rfl (fun g7 => ?_) (fun g7 => ?_)
  · have g7' := g7
    try simp only [decide_eq_true_eq, decide_eq_false_iff_not, beq_iff_eq, beq_eq_false_iff_ne, bne_iff_ne, ne_eq, Bool.not_eq_true', Bool.not_eq_false', bne_eq_false_iff_eq, Bool.not_eq_eq_eq_not, Bool.not_true, Bool.not_false] at g7'
    exact Bool.noConfusion g7
  · have g7' := g7
    try simp only [decide_eq_true_eq, decide_eq_false_iff_not, beq_iff_eq, beq_eq_false_iff_ne, bne_iff_ne, ne_eq, Bool.not_eq_true', Bool.not_eq_false', bne_eq_false_iff_eq, Bool.not_eq_eq_eq_not, Bool.not_true, Bool.not_false] at g7'
    refine Ops.guard_no rfl rfl rfl rfl g7 ?_
    refine Ops.guard_no rfl rfl rfl rfl g7 ?_
    refine Ops.guard_no rfl rfl rfl rfl g7 ?_
    refine Ops.guard_no rfl rfl rfl rfl g7 ?_
    refine Ops.guard_no rfl rfl rfl rfl g7 ?_
    refine Ops.quiet (Qt.pick_t rfl rfl g7) rfl ?_
    refine Ops.nil ?_
    refine H.then_normal ?_
    refine H.cond_true rfl (by rfl) ?_
    refine H.seq ?_
    refine H.region ?_
    refine Ops.quiet (Qt.assign rfl) rfl ?_
    refine Ops.quiet (Qt.assign rfl) rfl ?_
    refine Ops.nil ?_
    refine H.then_normal ?_
    refine H.ret ?_
    refine H.then_ret ?_
    refine (H.ends rfl (.cons (.tmp rfl) (.cons (.tmp rfl) .nil)) ?_)
    exact ⟨rfl, rfl⟩
theorem spec_over_nil (w0 : World) (cs : List SProp) : Spec Tryd.prog w0 15 [nilp] cs (fun u cs' => u = bol true ∧ cs' = cs) := by
  refine Spec.of_body Tryd.func15 rfl Tryd.ntmps15 rfl ?_
  refine H.seq ?_
  refine H.region ?_
  refine Ops.quiet (Qt.assign rfl) rfl ?_
  refine Ops.nil ?_
  refine H.then_normal ?_
  refine H.seq ?_
  refine H.region ?_
  refine Ops.quiet (Qt.move rfl) rfl ?_
  refine Ops.quiet (Qt.ptr_eq_nil rfl (tk rfl)) rfl ?_
  refine Ops.quiet (Qt.move rfl) rfl ?_
  refine Ops.guard rfl rfl rfl rfl (fun g5 => ?_) (fun g5 => ?_)
  · have g5' := g5
    try simp only [decide_eq_true_eq, decide_eq_false_iff_not, beq_iff_eq, beq_eq_false_iff_ne, bne_iff_ne, ne_eq, Bool.not_eq_true', Bool.not_eq_false', bne_eq_false_iff_eq, Bool.not_eq_eq_eq_not, Bool.not_true, Bool.not_false] at g5'
    exact Bool.noConfusion g5
  · have g5' := g5
    try simp only [decide_eq_true_eq, decide_eq_false_iff_not, beq_iff_eq, beq_eq_false_iff_ne, bne_iff_ne, ne_eq, Bool.not_eq_true', Bool.not_eq_false', bne_eq_false_iff_eq, Bool.not_eq_eq_eq_not, Bool.not_true, Bool.not_false] at g5'
    refine Ops.guard_no rfl rfl rfl rfl g5 ?_
    refine Ops.guard_no rfl rfl rfl rfl g5 ?_
    refine Ops.guard_no rfl rfl rfl rfl g5 ?_
    refine Ops.quiet (Qt.pick_t rfl rfl g5) rfl ?_
    refine Ops.quiet (Qt.assign rfl) rfl ?_
    refine Ops.nil ?_
    refine H.then_normal ?_
    refine H.ret ?_
    refine (H.ends rfl (.cons (.tmp rfl) .nil) ?_)
    exact ⟨rfl, rfl⟩
theorem spec_codes_nil (w0 : World) (cs : List SProp) : Spec Tryd.prog w0 16 [nilp] cs (fun u cs' => u = .slice none 0 0 ∧ cs' = cs) := by
  refine Spec.of_body Tryd.func16 rfl Tryd.ntmps16 rfl ?_
  refine H.seq ?_
  refine H.region ?_
  refine Ops.quiet (Qt.assign rfl) rfl ?_
  refine Ops.nil ?_
  refine H.then_normal ?_
  refine H.seq ?_
  refine H.seq ?_
  refine H.region ?_
  refine Ops.quiet (Qt.move rfl) rfl ?_
  refine Ops.quiet (Qt.ptr_eq_nil rfl (tk rfl)) rfl ?_
  refine Ops.nil ?_
  refine H.then_normal ?_
  refine H.cond_true rfl (by rfl) ?_
  refine H.seq ?_
  refine H.region ?_
  refine Ops.quiet (Qt.assign rfl) rfl ?_
  refine Ops.nil ?_
  refine H.then_normal ?_
  refine H.ret ?_
  refine H.then_ret ?_
  refine (H.ends rfl (.cons (.tmp rfl) .nil) ?_)
  exact ⟨rfl, rfl⟩
theorem Cl.new_inv {host frm : Bs} {targets body : List Bs} (hh : Sm host) (hf : Sm frm) (ht : ∀ t ∈ targets, Sm t) (hn : targets.length ≤ 1000000) (hb : body.length ≤ 100000000000000) : Inv (Cl.new host frm targets body) := by
  have hs : Sm (stuffV body).1 := by
    unfold stuffV
    split
    · rename_i hg
      simp only [goodB, Bool.and_eq_true, decide_eq_true_eq] at hg
      have := stuffB_len body
      simp only [Sm, List.length_append, List.length_cons, List.length_nil]
      omega
    · simp [Sm]
  have hok : ClOk { Cl.new0 host frm targets with body := (stuffV body).1 } := ⟨hh, hf, hs, ht, hn, by simp [Cl.new0], by simp [Cl.new0], by simp [Cl.new0], by simp [Cl.new0], by simp [Cl.new0]⟩
  unfold Cl.new
  split
  · exact Cl.fin_inv hok _
  · rename_i h
    simp only [not_or] at h
    refine ⟨hok, fun _ => ?_, fun _ => by simp [Cl.new0], fun _ _ => ?_, fun _ _ => rfl⟩
    · show 0 < targets.length; omega
    · show (0 : Int) < targets.length; omega
/-- What the session is behind the first reply. -/
def ans1 : Cl := ⟨[104], [97, 64, 98], [[99, 64, 100]], [46, 13, 10], [], 0, [], [[69, 72, 76, 79, 32, 104, 13, 10]], 1, 0, [0], false⟩
theorem ans1_eq : (Cl.new [104] [97, 64, 98] [[99, 64, 100]] []).feed [50, 50, 48, 32, 120, 13, 10] = ans1 := by kernel_rfl
theorem spec_answers (w0 : World) (hG : Gl w0) (cs : List SProp) : Spec Tryd.prog w0 7 [] cs (fun u cs' => u = bol true ∧ cs' = cs) := by
  have hI : Inv (Cl.new [104] [97, 64, 98] [[99, 64, 100]] []) := Cl.new_inv (by simp [Sm]) (by simp [Sm]) (by simp [Sm]) (by simp) (by simp)
  refine Spec.of_body Tryd.func7 rfl Tryd.ntmps7 rfl ?_
  refine H.seq ?_
  refine H.region ?_
  refine Ops.quiet (Qt.assign rfl) rfl ?_
  refine Ops.nil ?_
  refine H.then_normal ?_
  refine H.seq ?_
  refine H.region ?_
  refine Ops.eff (Ef.buildSlice (tk rfl) (tk rfl) rfl (zk rfl) rfl rfl rfl (by repeat (first | exact ones_nil | refine ones_cons rfl ?_))) rfl ?_
  rintro _ _ ⟨A4, c4, rfl, rfl⟩
  refine Ops.eff (Ef.call (fok fab_all rfl Tryd.func8 rfl) rfl (spec_new w0 [104] [97, 64, 98] [[99, 64, 100]] [] _ Reads.of_head Reads.none (by simp) (by simp))) rfl ?_
  rintro _ _ ⟨b5, rfl, rfl⟩
  refine Ops.quiet (Qt.assign rfl) rfl ?_
  refine Ops.nil ?_
  refine H.then_normal ?_
  refine H.seq ?_
  have hf := fun (n : Nat) (A : Option Addr) (cap : Nat) (fr : List SProp) hr => spec_feed w0 hG b5 (Cl.new [104] [97, 64, 98] [[99, 64, 100]] []) [50, 50, 48, 32, 120, 13, 10] (A := A) (n := n) (cap := cap) fr hr hI (by decide) (by decide)
  rw [ans1_eq] at hf
  refine H.region ?_
  refine Ops.quiet (Qt.move rfl) rfl ?_
  refine Ops.eff (Ef.buildSlice (tk rfl) (tk rfl) rfl (zk rfl) rfl rfl rfl (by repeat (first | exact ones_nil | refine ones_cons rfl ?_))) rfl ?_
  rintro _ _ ⟨A7, c7, rfl, rfl⟩
  refine Ops.eff (Ef.conv_mark rfl (tk rfl) (tk rfl) (by repeat (first | exact Upd.head | apply Upd.tail)) (by omega)) rfl ?_
  rintro _ _ ⟨rfl, rfl⟩
  refine Ops.eff (Ef.call (fok fab_all rfl Tryd.func10 rfl) rfl (Spec.conv (fun w hw => hw.perm (.swap _ _ _)) (hf _ _ _ _ Reads.of_head))) rfl ?_
  rintro _ _ ⟨rfl, rfl⟩
  refine Ops.nil ?_
  refine H.then_normal ?_
  refine H.seq ?_
  refine H.region ?_
  refine Ops.quiet (Qt.move rfl) rfl ?_
  refine Ops.eff (Ef.call (fok fab_all rfl Tryd.func14 rfl) rfl (spec_Next w0 b5 ans1 _)) rfl ?_
  rintro _ _ ⟨rfl, rfl⟩
  refine Ops.quiet (Qt.move rfl) rfl ?_
  refine Ops.quiet (Qt.extract rfl rfl) rfl ?_
  refine Ops.quiet (Qt.extract rfl rfl) rfl ?_
  refine Ops.quiet (Qt.assign rfl) rfl ?_
  refine Ops.quiet (Qt.assign rfl) rfl ?_
  refine Ops.nil ?_
  refine H.then_normal ?_
  refine H.seq ?_
  refine H.region ?_
  refine Ops.quiet (Qt.move rfl) rfl ?_
  refine Ops.quiet (Qt.move rfl) rfl ?_
  refine Ops.guard rfl rfl rfl rfl (fun g16 => ?_) (fun g16 => ?_)
  · have g16' := g16
    try simp only [decide_eq_true_eq, decide_eq_false_iff_not, beq_iff_eq, beq_eq_false_iff_ne, bne_iff_ne, ne_eq, Bool.not_eq_true', Bool.not_eq_false', bne_eq_false_iff_eq, Bool.not_eq_eq_eq_not, Bool.not_true, Bool.not_false] at g16'
    refine Ops.quiet (Qt.move rfl) rfl ?_
    refine Ops.guard_yes rfl rfl rfl rfl g16 ?_
    refine Ops.quiet (Qt.seq rfl rfl) rfl ?_
    refine Ops.quiet (Qt.pick_t rfl rfl g16) rfl ?_
    refine Ops.quiet (Qt.move rfl) rfl ?_
    refine Ops.guard rfl rfl rfl rfl (fun g20 => ?_) (fun g20 => ?_)
    · have g20' := g20
      try simp only [decide_eq_true_eq, decide_eq_false_iff_not, beq_iff_eq, beq_eq_false_iff_ne, bne_iff_ne, ne_eq, Bool.not_eq_true', Bool.not_eq_false', bne_eq_false_iff_eq, Bool.not_eq_eq_eq_not, Bool.not_true, Bool.not_false] at g20'
      refine Ops.quiet (Qt.move rfl) rfl ?_
      refine Ops.guard_yes rfl rfl rfl rfl g20 ?_
      refine Ops.eff (Ef.call (fok fab_all rfl Tryd.func15 rfl) rfl (spec_Over w0 b5 _ _)) rfl ?_
      rintro _ _ ⟨rfl, rfl⟩
      refine Ops.guard_yes rfl rfl rfl rfl g20 ?_
      refine Ops.quiet (Qt.not rfl) rfl ?_
      refine Ops.quiet (Qt.pick_t rfl rfl g20) rfl ?_
      refine Ops.quiet (Qt.move rfl) rfl ?_
      refine Ops.guard rfl rfl rfl rfl (fun g25 => ?_) (fun g25 => ?_)
      · have g25' := g25
        try simp only [decide_eq_true_eq, decide_eq_false_iff_not, beq_iff_eq, beq_eq_false_iff_ne, bne_iff_ne, ne_eq, Bool.not_eq_true', Bool.not_eq_false', bne_eq_false_iff_eq, Bool.not_eq_eq_eq_not, Bool.not_true, Bool.not_false] at g25'
        refine Ops.quiet (Qt.move rfl) rfl ?_
        refine Ops.guard_yes rfl rfl rfl rfl g25 ?_
        refine Ops.eff (Ef.call (fok fab_all rfl Tryd.func16 rfl) rfl (spec_Codes w0 b5 _ _ (by simp [ans1]))) rfl ?_
        rintro _ _ ⟨A27, rfl, c27, rfl⟩
        refine Ops.guard_yes rfl rfl rfl rfl g25 ?_
        refine Ops.quiet (Qt.len_sl (ats := #[]) rfl (tk rfl)) rfl ?_
        refine Ops.guard_yes rfl rfl rfl rfl g25 ?_
        refine Ops.quiet (Qt.eql rfl rfl) rfl ?_
        refine Ops.quiet (Qt.pick_t rfl rfl g25) rfl ?_
        refine Ops.quiet (Qt.assign rfl) rfl ?_
        refine Ops.nil ?_
        refine H.then_normal ?_
        refine H.ret ?_
        refine (H.ends_to (cs' := cs) rfl (.cons (.tmp rfl) .nil) (fun w hw => ?_) ?_)
        · exact hw.sub (by repeat (first | exact List.Sublist.refl _ | exact List.nil_sublist _ | apply List.Sublist.cons_cons | apply List.Sublist.cons))
        · exact ⟨rfl, rfl⟩
      · have g25' := g25
        try simp only [decide_eq_true_eq, decide_eq_false_iff_not, beq_iff_eq, beq_eq_false_iff_ne, bne_iff_ne, ne_eq, Bool.not_eq_true', Bool.not_eq_false', bne_eq_false_iff_eq, Bool.not_eq_eq_eq_not, Bool.not_true, Bool.not_false] at g25'
        exact Bool.noConfusion g25
    · have g20' := g20
      try simp only [decide_eq_true_eq, decide_eq_false_iff_not, beq_iff_eq, beq_eq_false_iff_ne, bne_iff_ne, ne_eq, Bool.not_eq_true', Bool.not_eq_false', bne_eq_false_iff_eq, Bool.not_eq_eq_eq_not, Bool.not_true, Bool.not_false] at g20'
      exact Bool.noConfusion g20
  · have g16' := g16
    try simp only [decide_eq_true_eq, decide_eq_false_iff_not, beq_iff_eq, beq_eq_false_iff_ne, bne_iff_ne, ne_eq, Bool.not_eq_true', Bool.not_eq_false', bne_eq_false_iff_eq, Bool.not_eq_eq_eq_not, Bool.not_true, Bool.not_false] at g16'
    exact Bool.noConfusion g16
theorem spec_none (w0 : World) (hG : Gl w0) (v : Value) (cs : List SProp) : Spec Tryd.prog w0 5 [v] cs (fun u cs' => u = bol true ∧ cs' = cs) := by
  refine Spec.of_body Tryd.func5 rfl Tryd.ntmps5 rfl ?_
  refine H.seq ?_
  refine H.region ?_
  refine Ops.quiet (Qt.assign rfl) rfl ?_
  refine Ops.nil ?_
  refine H.then_normal ?_
  refine H.seq ?_
  refine H.region ?_
  refine Ops.quiet (Qt.assign rfl) rfl ?_
  refine Ops.nil ?_
  refine H.then_normal ?_
  refine H.seq ?_
  refine H.region ?_
  refine Ops.quiet (Qt.move rfl) rfl ?_
  refine Ops.quiet (Qt.move rfl) rfl ?_
  refine Ops.eff (Ef.call (fok fab_all rfl Tryd.func10 rfl) rfl (spec_feed_nil w0 v _)) rfl ?_
  rintro _ _ ⟨rfl, rfl⟩
  refine Ops.nil ?_
  refine H.then_normal ?_
  refine H.seq ?_
  refine H.region ?_
  refine Ops.quiet (Qt.move rfl) rfl ?_
  refine Ops.eff (Ef.call (fok fab_all rfl Tryd.func12 rfl) rfl (spec_lost_nil w0 _)) rfl ?_
  rintro _ _ ⟨rfl, rfl⟩
  refine Ops.nil ?_
  refine H.then_normal ?_
  refine H.seq ?_
  refine H.region ?_
  refine Ops.quiet (Qt.move rfl) rfl ?_
  refine Ops.eff (Ef.call (fok fab_all rfl Tryd.func14 rfl) rfl (spec_next_nil w0 _)) rfl ?_
  rintro _ _ ⟨rfl, rfl⟩
  refine Ops.quiet (Qt.move rfl) rfl ?_
  refine Ops.quiet (Qt.extract rfl rfl) rfl ?_
  refine Ops.quiet (Qt.extract rfl rfl) rfl ?_
  refine Ops.quiet (Qt.assign rfl) rfl ?_
  refine Ops.quiet (Qt.assign rfl) rfl ?_
  refine Ops.nil ?_
  refine H.then_normal ?_
  refine H.seq ?_
  refine H.region ?_
  refine Ops.eff (Ef.call (fok fab_all rfl Tryd.func7 rfl) rfl (spec_answers w0 hG _)) rfl ?_
  rintro _ _ ⟨rfl, rfl⟩
  refine Ops.quiet (Qt.move rfl) rfl ?_
  refine Ops.guard rfl rfl rfl rfl (fun g17 => ?_) (fun g17 => ?_)
  · have g17' := g17
    try simp only [decide_eq_true_eq, decide_eq_false_iff_not, beq_iff_eq, beq_eq_false_iff_ne, bne_iff_ne, ne_eq, Bool.not_eq_true', Bool.not_eq_false', bne_eq_false_iff_eq, Bool.not_eq_eq_eq_not, Bool.not_true, Bool.not_false] at g17'
    refine Ops.quiet (Qt.move rfl) rfl ?_
    refine Ops.guard_yes rfl rfl rfl rfl g17 ?_
    refine Ops.quiet (Qt.seq rfl rfl) rfl ?_
    refine Ops.quiet (Qt.pick_t rfl rfl g17) rfl ?_
    refine Ops.quiet (Qt.move rfl) rfl ?_
    refine Ops.guard rfl rfl rfl rfl (fun g21 => ?_) (fun g21 => ?_)
    · have g21' := g21
      try simp only [decide_eq_true_eq, decide_eq_false_iff_not, beq_iff_eq, beq_eq_false_iff_ne, bne_iff_ne, ne_eq, Bool.not_eq_true', Bool.not_eq_false', bne_eq_false_iff_eq, Bool.not_eq_eq_eq_not, Bool.not_true, Bool.not_false] at g21'
      refine Ops.quiet (Qt.move rfl) rfl ?_
      refine Ops.guard_yes rfl rfl rfl rfl g21 ?_
      refine Ops.quiet (Qt.not rfl) rfl ?_
      refine Ops.quiet (Qt.pick_t rfl rfl g21) rfl ?_
      refine Ops.quiet (Qt.move rfl) rfl ?_
      refine Ops.guard rfl rfl rfl rfl (fun g25 => ?_) (fun g25 => ?_)
      · have g25' := g25
        try simp only [decide_eq_true_eq, decide_eq_false_iff_not, beq_iff_eq, beq_eq_false_iff_ne, bne_iff_ne, ne_eq, Bool.not_eq_true', Bool.not_eq_false', bne_eq_false_iff_eq, Bool.not_eq_eq_eq_not, Bool.not_true, Bool.not_false] at g25'
        refine Ops.quiet (Qt.move rfl) rfl ?_
        refine Ops.guard_yes rfl rfl rfl rfl g25 ?_
        refine Ops.eff (Ef.call (fok fab_all rfl Tryd.func15 rfl) rfl (spec_over_nil w0 _)) rfl ?_
        rintro _ _ ⟨rfl, rfl⟩
        refine Ops.quiet (Qt.pick_t rfl rfl g25) rfl ?_
        refine Ops.quiet (Qt.move rfl) rfl ?_
        refine Ops.guard rfl rfl rfl rfl (fun g29 => ?_) (fun g29 => ?_)
        · have g29' := g29
          try simp only [decide_eq_true_eq, decide_eq_false_iff_not, beq_iff_eq, beq_eq_false_iff_ne, bne_iff_ne, ne_eq, Bool.not_eq_true', Bool.not_eq_false', bne_eq_false_iff_eq, Bool.not_eq_eq_eq_not, Bool.not_true, Bool.not_false] at g29'
          refine Ops.quiet (Qt.move rfl) rfl ?_
          refine Ops.guard_yes rfl rfl rfl rfl g29 ?_
          refine Ops.eff (Ef.call (fok fab_all rfl Tryd.func16 rfl) rfl (spec_codes_nil w0 _)) rfl ?_
          rintro _ _ ⟨rfl, rfl⟩
          refine Ops.guard_yes rfl rfl rfl rfl g29 ?_
          refine Ops.quiet (Qt.len_sl (ats := #[]) rfl (tk rfl)) rfl ?_
          refine Ops.guard_yes rfl rfl rfl rfl g29 ?_
          refine Ops.quiet (Qt.eql rfl rfl) rfl ?_
          refine Ops.quiet (Qt.pick_t rfl rfl g29) rfl ?_
          refine Ops.quiet (Qt.assign rfl) rfl ?_
          refine Ops.nil ?_
          refine H.then_normal ?_
          refine H.ret ?_
          refine (H.ends rfl (.cons (.tmp rfl) .nil) ?_)
          exact ⟨rfl, rfl⟩
        · have g29' := g29
          try simp only [decide_eq_true_eq, decide_eq_false_iff_not, beq_iff_eq, beq_eq_false_iff_ne, bne_iff_ne, ne_eq, Bool.not_eq_true', Bool.not_eq_false', bne_eq_false_iff_eq, Bool.not_eq_eq_eq_not, Bool.not_true, Bool.not_false] at g29'
          exact Bool.noConfusion g29
      · have g25' := g25
        try simp only [decide_eq_true_eq, decide_eq_false_iff_not, beq_iff_eq, beq_eq_false_iff_ne, bne_iff_ne, ne_eq, Bool.not_eq_true', Bool.not_eq_false', bne_eq_false_iff_eq, Bool.not_eq_eq_eq_not, Bool.not_true, Bool.not_false] at g25'
        exact Bool.noConfusion g25
    · have g21' := g21
      try simp only [decide_eq_true_eq, decide_eq_false_iff_not, beq_iff_eq, beq_eq_false_iff_ne, bne_iff_ne, ne_eq, Bool.not_eq_true', Bool.not_eq_false', bne_eq_false_iff_eq, Bool.not_eq_eq_eq_not, Bool.not_true, Bool.not_false] at g21'
      exact Bool.noConfusion g21
  · have g17' := g17
    try simp only [decide_eq_true_eq, decide_eq_false_iff_not, beq_iff_eq, beq_eq_false_iff_ne, bne_iff_ne, ne_eq, Bool.not_eq_true', Bool.not_eq_false', bne_eq_false_iff_eq, Bool.not_eq_eq_eq_not, Bool.not_true, Bool.not_false] at g17'
    exact Bool.noConfusion g17
end Go.Proofs.YtimldpbddkhedaaDoor
