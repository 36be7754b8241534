/- The document's mailboxes and domains, against the same plain functions. -/
import Derived.Test.YtbglphpinhjfeaaGreatDoorAdr
import Derived.Test.YtbglphpinhjfeaaGreatDoorRef
namespace Go.Proofs.YtbglphpinhjfeaaGreatDoor
open Go Go.RowKit
set_option maxRecDepth 100000
set_option linter.unusedVariables false
set_option linter.unusedSimpArgs false
attribute [local irreducible] Go.wpList Go.Code.wp Go.Exit.then Go.Exit.inBlock Go.Exit.noGoto Ends blk osl oblk LoopI Own Spec
theorem spec_rletter (w0 : World) (c : UInt8) (cs : List SProp) : Spec Tryz.prog w0 87 [u8v c] cs (fun v cs' => v = bol (letterB c) ∧ cs' = cs) := by
  refine Spec.of_body Tryz.func87 rfl Tryz.ntmps87 rfl ?_
  refine H.seq ?_
  refine H.region ?_
  refine Ops.quiet (Qt.assign rfl) rfl ?_
  refine Ops.nil ?_
  refine H.then_normal ?_
  refine H.seq ?_
  refine H.region ?_
  refine Ops.quiet (Qt.move rfl) rfl ?_
  refine Ops.quiet (Qt.geq rfl rfl) rfl ?_
  refine Ops.quiet (Qt.move rfl) rfl ?_
  refine Ops.guard rfl rfl rfl rfl (fun g5 => ?_) (fun g5 => ?_)
  · have g5' := g5
    try simp only [decide_eq_true_eq, decide_eq_false_iff_not, beq_iff_eq, beq_eq_false_iff_ne, bne_iff_ne, ne_eq, Bool.not_eq_true', Bool.not_eq_false', bne_eq_false_iff_eq, Bool.not_eq_eq_eq_not, Bool.not_true, Bool.not_false] at g5'
    refine Ops.quiet (Qt.move rfl) rfl ?_
    refine Ops.guard_yes rfl rfl rfl rfl g5 ?_
    refine Ops.quiet (Qt.leq rfl rfl) rfl ?_
    refine Ops.quiet (Qt.pick_t rfl rfl g5) rfl ?_
    refine Ops.quiet (Qt.move rfl) rfl ?_
    refine Ops.guard rfl rfl rfl rfl (fun g9 => ?_) (fun g9 => ?_)
    · have g9' := g9
      try simp only [decide_eq_true_eq, decide_eq_false_iff_not, beq_iff_eq, beq_eq_false_iff_ne, bne_iff_ne, ne_eq, Bool.not_eq_true', Bool.not_eq_false', bne_eq_false_iff_eq, Bool.not_eq_eq_eq_not, Bool.not_true, Bool.not_false] at g9'
      refine Ops.quiet (Qt.move rfl) rfl ?_
      refine Ops.guard_yes rfl rfl rfl rfl g9 ?_
      refine Ops.quiet (Qt.geq rfl rfl) rfl ?_
      refine Ops.guard_yes rfl rfl rfl rfl g9 ?_
      refine Ops.quiet (Qt.move rfl) rfl ?_
      refine Ops.guard rfl rfl rfl rfl (fun g12 => ?_) (fun g12 => ?_)
      · have g12' := g12
        try simp only [decide_eq_true_eq, decide_eq_false_iff_not, beq_iff_eq, beq_eq_false_iff_ne, bne_iff_ne, ne_eq, Bool.not_eq_true', Bool.not_eq_false', bne_eq_false_iff_eq, Bool.not_eq_eq_eq_not, Bool.not_true, Bool.not_false] at g12'
        refine Ops.quiet (Qt.move rfl) rfl ?_
        refine Ops.guard_yes rfl rfl rfl rfl g12 ?_
        refine Ops.quiet (Qt.leq rfl rfl) rfl ?_
        refine Ops.guard_yes rfl rfl rfl rfl g9 ?_
        refine Ops.quiet (Qt.pick_t rfl rfl g12) rfl ?_
        refine Ops.quiet (Qt.pick_f rfl rfl g9) rfl ?_
        refine Ops.quiet (Qt.move rfl) rfl ?_
        refine Ops.guard rfl rfl rfl rfl (fun g17 => ?_) (fun g17 => ?_)
        · have g17' := g17
          try simp only [decide_eq_true_eq, decide_eq_false_iff_not, beq_iff_eq, beq_eq_false_iff_ne, bne_iff_ne, ne_eq, Bool.not_eq_true', Bool.not_eq_false', bne_eq_false_iff_eq, Bool.not_eq_eq_eq_not, Bool.not_true, Bool.not_false] at g17'
          refine Ops.quiet (Qt.move rfl) rfl ?_
          refine Ops.guard_yes rfl rfl rfl rfl g17 ?_
          refine Ops.quiet (Qt.geq rfl rfl) rfl ?_
          refine Ops.guard_yes rfl rfl rfl rfl g17 ?_
          refine Ops.quiet (Qt.move rfl) rfl ?_
          refine Ops.guard rfl rfl rfl rfl (fun g20 => ?_) (fun g20 => ?_)
          · have g20' := g20
            try simp only [decide_eq_true_eq, decide_eq_false_iff_not, beq_iff_eq, beq_eq_false_iff_ne, bne_iff_ne, ne_eq, Bool.not_eq_true', Bool.not_eq_false', bne_eq_false_iff_eq, Bool.not_eq_eq_eq_not, Bool.not_true, Bool.not_false] at g20'
            refine Ops.quiet (Qt.move rfl) rfl ?_
            refine Ops.guard_yes rfl rfl rfl rfl g20 ?_
            refine Ops.quiet (Qt.leq rfl rfl) rfl ?_
            refine Ops.guard_yes rfl rfl rfl rfl g17 ?_
            refine Ops.quiet (Qt.pick_t rfl rfl g20) rfl ?_
            refine Ops.quiet (Qt.pick_f rfl rfl g17) rfl ?_
            refine Ops.quiet (Qt.assign rfl) rfl ?_
            refine Ops.nil ?_
            refine H.then_normal ?_
            refine H.ret ?_
            refine (H.ends rfl (.cons (.tmp rfl) .nil) ?_)
            refine ⟨congrArg bol (Bool.eq_iff_iff.2 ?_), rfl⟩
            simp only [letterB, decide_eq_true_eq, Bool.false_eq_true, eq_self, true_iff, false_iff, iff_true, iff_false]
            first | omega | contradiction
          · have g20' := g20
            try simp only [decide_eq_true_eq, decide_eq_false_iff_not, beq_iff_eq, beq_eq_false_iff_ne, bne_iff_ne, ne_eq, Bool.not_eq_true', Bool.not_eq_false', bne_eq_false_iff_eq, Bool.not_eq_eq_eq_not, Bool.not_true, Bool.not_false] at g20'
            refine Ops.guard_no rfl rfl rfl rfl g20 ?_
            refine Ops.guard_yes rfl rfl rfl rfl g17 ?_
            refine Ops.quiet (Qt.pick_f rfl rfl g20) rfl ?_
            refine Ops.quiet (Qt.pick_f rfl rfl g17) rfl ?_
            refine Ops.quiet (Qt.assign rfl) rfl ?_
            refine Ops.nil ?_
            refine H.then_normal ?_
            refine H.ret ?_
            refine (H.ends rfl (.cons (.tmp rfl) .nil) ?_)
            refine ⟨congrArg bol (Bool.eq_iff_iff.2 ?_), rfl⟩
            simp only [letterB, decide_eq_true_eq, Bool.false_eq_true, eq_self, true_iff, false_iff, iff_true, iff_false]
            first | omega | contradiction
        · have g17' := g17
          try simp only [decide_eq_true_eq, decide_eq_false_iff_not, beq_iff_eq, beq_eq_false_iff_ne, bne_iff_ne, ne_eq, Bool.not_eq_true', Bool.not_eq_false', bne_eq_false_iff_eq, Bool.not_eq_eq_eq_not, Bool.not_true, Bool.not_false] at g17'
          refine Ops.guard_no rfl rfl rfl rfl g17 ?_
          refine Ops.guard_no rfl rfl rfl rfl g17 ?_
          refine Ops.guard_un rfl rfl rfl rfl ?_
          refine Ops.guard_un rfl rfl rfl rfl ?_
          refine Ops.guard_no rfl rfl rfl rfl g17 ?_
          refine Ops.quiet (Qt.pick_t rfl rfl g17) rfl ?_
          refine Ops.quiet (Qt.assign rfl) rfl ?_
          refine Ops.nil ?_
          refine H.then_normal ?_
          refine H.ret ?_
          refine (H.ends rfl (.cons (.tmp rfl) .nil) ?_)
          refine ⟨congrArg bol (Bool.eq_iff_iff.2 ?_), rfl⟩
          simp only [letterB, decide_eq_true_eq, Bool.false_eq_true, eq_self, true_iff, false_iff, iff_true, iff_false]
          first | omega | contradiction
      · have g12' := g12
        try simp only [decide_eq_true_eq, decide_eq_false_iff_not, beq_iff_eq, beq_eq_false_iff_ne, bne_iff_ne, ne_eq, Bool.not_eq_true', Bool.not_eq_false', bne_eq_false_iff_eq, Bool.not_eq_eq_eq_not, Bool.not_true, Bool.not_false] at g12'
        refine Ops.guard_no rfl rfl rfl rfl g12 ?_
        refine Ops.guard_yes rfl rfl rfl rfl g9 ?_
        refine Ops.quiet (Qt.pick_f rfl rfl g12) rfl ?_
        refine Ops.quiet (Qt.pick_f rfl rfl g9) rfl ?_
        refine Ops.quiet (Qt.move rfl) rfl ?_
        refine Ops.guard rfl rfl rfl rfl (fun g17 => ?_) (fun g17 => ?_)
        · have g17' := g17
          try simp only [decide_eq_true_eq, decide_eq_false_iff_not, beq_iff_eq, beq_eq_false_iff_ne, bne_iff_ne, ne_eq, Bool.not_eq_true', Bool.not_eq_false', bne_eq_false_iff_eq, Bool.not_eq_eq_eq_not, Bool.not_true, Bool.not_false] at g17'
          refine Ops.quiet (Qt.move rfl) rfl ?_
          refine Ops.guard_yes rfl rfl rfl rfl g17 ?_
          refine Ops.quiet (Qt.geq rfl rfl) rfl ?_
          refine Ops.guard_yes rfl rfl rfl rfl g17 ?_
          refine Ops.quiet (Qt.move rfl) rfl ?_
          refine Ops.guard rfl rfl rfl rfl (fun g20 => ?_) (fun g20 => ?_)
          · have g20' := g20
            try simp only [decide_eq_true_eq, decide_eq_false_iff_not, beq_iff_eq, beq_eq_false_iff_ne, bne_iff_ne, ne_eq, Bool.not_eq_true', Bool.not_eq_false', bne_eq_false_iff_eq, Bool.not_eq_eq_eq_not, Bool.not_true, Bool.not_false] at g20'
            refine Ops.quiet (Qt.move rfl) rfl ?_
            refine Ops.guard_yes rfl rfl rfl rfl g20 ?_
            refine Ops.quiet (Qt.leq rfl rfl) rfl ?_
            refine Ops.guard_yes rfl rfl rfl rfl g17 ?_
            refine Ops.quiet (Qt.pick_t rfl rfl g20) rfl ?_
            refine Ops.quiet (Qt.pick_f rfl rfl g17) rfl ?_
            refine Ops.quiet (Qt.assign rfl) rfl ?_
            refine Ops.nil ?_
            refine H.then_normal ?_
            refine H.ret ?_
            refine (H.ends rfl (.cons (.tmp rfl) .nil) ?_)
            refine ⟨congrArg bol (Bool.eq_iff_iff.2 ?_), rfl⟩
            simp only [letterB, decide_eq_true_eq, Bool.false_eq_true, eq_self, true_iff, false_iff, iff_true, iff_false]
            first | omega | contradiction
          · have g20' := g20
            try simp only [decide_eq_true_eq, decide_eq_false_iff_not, beq_iff_eq, beq_eq_false_iff_ne, bne_iff_ne, ne_eq, Bool.not_eq_true', Bool.not_eq_false', bne_eq_false_iff_eq, Bool.not_eq_eq_eq_not, Bool.not_true, Bool.not_false] at g20'
            refine Ops.guard_no rfl rfl rfl rfl g20 ?_
            refine Ops.guard_yes rfl rfl rfl rfl g17 ?_
            refine Ops.quiet (Qt.pick_f rfl rfl g20) rfl ?_
            refine Ops.quiet (Qt.pick_f rfl rfl g17) rfl ?_
            refine Ops.quiet (Qt.assign rfl) rfl ?_
            refine Ops.nil ?_
            refine H.then_normal ?_
            refine H.ret ?_
            refine (H.ends rfl (.cons (.tmp rfl) .nil) ?_)
            refine ⟨congrArg bol (Bool.eq_iff_iff.2 ?_), rfl⟩
            simp only [letterB, decide_eq_true_eq, Bool.false_eq_true, eq_self, true_iff, false_iff, iff_true, iff_false]
            first | omega | contradiction
        · have g17' := g17
          try simp only [decide_eq_true_eq, decide_eq_false_iff_not, beq_iff_eq, beq_eq_false_iff_ne, bne_iff_ne, ne_eq, Bool.not_eq_true', Bool.not_eq_false', bne_eq_false_iff_eq, Bool.not_eq_eq_eq_not, Bool.not_true, Bool.not_false] at g17'
          refine Ops.guard_no rfl rfl rfl rfl g17 ?_
          refine Ops.guard_no rfl rfl rfl rfl g17 ?_
          refine Ops.guard_un rfl rfl rfl rfl ?_
          refine Ops.guard_un rfl rfl rfl rfl ?_
          refine Ops.guard_no rfl rfl rfl rfl g17 ?_
          refine Ops.quiet (Qt.pick_t rfl rfl g17) rfl ?_
          refine Ops.quiet (Qt.assign rfl) rfl ?_
          refine Ops.nil ?_
          refine H.then_normal ?_
          refine H.ret ?_
          refine (H.ends rfl (.cons (.tmp rfl) .nil) ?_)
          refine ⟨congrArg bol (Bool.eq_iff_iff.2 ?_), rfl⟩
          simp only [letterB, decide_eq_true_eq, Bool.false_eq_true, eq_self, true_iff, false_iff, iff_true, iff_false]
          first | omega | contradiction
    · have g9' := g9
      try simp only [decide_eq_true_eq, decide_eq_false_iff_not, beq_iff_eq, beq_eq_false_iff_ne, bne_iff_ne, ne_eq, Bool.not_eq_true', Bool.not_eq_false', bne_eq_false_iff_eq, Bool.not_eq_eq_eq_not, Bool.not_true, Bool.not_false] at g9'
      refine Ops.guard_no rfl rfl rfl rfl g9 ?_
      refine Ops.guard_no rfl rfl rfl rfl g9 ?_
      refine Ops.guard_un rfl rfl rfl rfl ?_
      refine Ops.guard_un rfl rfl rfl rfl ?_
      refine Ops.guard_no rfl rfl rfl rfl g9 ?_
      refine Ops.quiet (Qt.pick_t rfl rfl g9) rfl ?_
      refine Ops.quiet (Qt.move rfl) rfl ?_
      refine Ops.guard rfl rfl rfl rfl (fun g17 => ?_) (fun g17 => ?_)
      · have g17' := g17
        try simp only [decide_eq_true_eq, decide_eq_false_iff_not, beq_iff_eq, beq_eq_false_iff_ne, bne_iff_ne, ne_eq, Bool.not_eq_true', Bool.not_eq_false', bne_eq_false_iff_eq, Bool.not_eq_eq_eq_not, Bool.not_true, Bool.not_false] at g17'
        refine Ops.quiet (Qt.move rfl) rfl ?_
        refine Ops.guard_yes rfl rfl rfl rfl g17 ?_
        refine Ops.quiet (Qt.geq rfl rfl) rfl ?_
        refine Ops.guard_yes rfl rfl rfl rfl g17 ?_
        refine Ops.quiet (Qt.move rfl) rfl ?_
        refine Ops.guard rfl rfl rfl rfl (fun g20 => ?_) (fun g20 => ?_)
        · have g20' := g20
          try simp only [decide_eq_true_eq, decide_eq_false_iff_not, beq_iff_eq, beq_eq_false_iff_ne, bne_iff_ne, ne_eq, Bool.not_eq_true', Bool.not_eq_false', bne_eq_false_iff_eq, Bool.not_eq_eq_eq_not, Bool.not_true, Bool.not_false] at g20'
          refine Ops.quiet (Qt.move rfl) rfl ?_
          refine Ops.guard_yes rfl rfl rfl rfl g20 ?_
          refine Ops.quiet (Qt.leq rfl rfl) rfl ?_
          refine Ops.guard_yes rfl rfl rfl rfl g17 ?_
          refine Ops.quiet (Qt.pick_t rfl rfl g20) rfl ?_
          refine Ops.quiet (Qt.pick_f rfl rfl g17) rfl ?_
          refine Ops.quiet (Qt.assign rfl) rfl ?_
          refine Ops.nil ?_
          refine H.then_normal ?_
          refine H.ret ?_
          refine (H.ends rfl (.cons (.tmp rfl) .nil) ?_)
          refine ⟨congrArg bol (Bool.eq_iff_iff.2 ?_), rfl⟩
          simp only [letterB, decide_eq_true_eq, Bool.false_eq_true, eq_self, true_iff, false_iff, iff_true, iff_false]
          first | omega | contradiction
        · have g20' := g20
          try simp only [decide_eq_true_eq, decide_eq_false_iff_not, beq_iff_eq, beq_eq_false_iff_ne, bne_iff_ne, ne_eq, Bool.not_eq_true', Bool.not_eq_false', bne_eq_false_iff_eq, Bool.not_eq_eq_eq_not, Bool.not_true, Bool.not_false] at g20'
          refine Ops.guard_no rfl rfl rfl rfl g20 ?_
          refine Ops.guard_yes rfl rfl rfl rfl g17 ?_
          refine Ops.quiet (Qt.pick_f rfl rfl g20) rfl ?_
          refine Ops.quiet (Qt.pick_f rfl rfl g17) rfl ?_
          refine Ops.quiet (Qt.assign rfl) rfl ?_
          refine Ops.nil ?_
          refine H.then_normal ?_
          refine H.ret ?_
          refine (H.ends rfl (.cons (.tmp rfl) .nil) ?_)
          refine ⟨congrArg bol (Bool.eq_iff_iff.2 ?_), rfl⟩
          simp only [letterB, decide_eq_true_eq, Bool.false_eq_true, eq_self, true_iff, false_iff, iff_true, iff_false]
          first | omega | contradiction
      · have g17' := g17
        try simp only [decide_eq_true_eq, decide_eq_false_iff_not, beq_iff_eq, beq_eq_false_iff_ne, bne_iff_ne, ne_eq, Bool.not_eq_true', Bool.not_eq_false', bne_eq_false_iff_eq, Bool.not_eq_eq_eq_not, Bool.not_true, Bool.not_false] at g17'
        refine Ops.guard_no rfl rfl rfl rfl g17 ?_
        refine Ops.guard_no rfl rfl rfl rfl g17 ?_
        refine Ops.guard_un rfl rfl rfl rfl ?_
        refine Ops.guard_un rfl rfl rfl rfl ?_
        refine Ops.guard_no rfl rfl rfl rfl g17 ?_
        refine Ops.quiet (Qt.pick_t rfl rfl g17) rfl ?_
        refine Ops.quiet (Qt.assign rfl) rfl ?_
        refine Ops.nil ?_
        refine H.then_normal ?_
        refine H.ret ?_
        refine (H.ends rfl (.cons (.tmp rfl) .nil) ?_)
        refine ⟨congrArg bol (Bool.eq_iff_iff.2 ?_), rfl⟩
        simp only [letterB, decide_eq_true_eq, Bool.false_eq_true, eq_self, true_iff, false_iff, iff_true, iff_false]
        first | omega | contradiction
  · have g5' := g5
    try simp only [decide_eq_true_eq, decide_eq_false_iff_not, beq_iff_eq, beq_eq_false_iff_ne, bne_iff_ne, ne_eq, Bool.not_eq_true', Bool.not_eq_false', bne_eq_false_iff_eq, Bool.not_eq_eq_eq_not, Bool.not_true, Bool.not_false] at g5'
    refine Ops.guard_no rfl rfl rfl rfl g5 ?_
    refine Ops.quiet (Qt.pick_f rfl rfl g5) rfl ?_
    refine Ops.quiet (Qt.move rfl) rfl ?_
    refine Ops.guard rfl rfl rfl rfl (fun g9 => ?_) (fun g9 => ?_)
    · have g9' := g9
      try simp only [decide_eq_true_eq, decide_eq_false_iff_not, beq_iff_eq, beq_eq_false_iff_ne, bne_iff_ne, ne_eq, Bool.not_eq_true', Bool.not_eq_false', bne_eq_false_iff_eq, Bool.not_eq_eq_eq_not, Bool.not_true, Bool.not_false] at g9'
      refine Ops.quiet (Qt.move rfl) rfl ?_
      refine Ops.guard_yes rfl rfl rfl rfl g9 ?_
      refine Ops.quiet (Qt.geq rfl rfl) rfl ?_
      refine Ops.guard_yes rfl rfl rfl rfl g9 ?_
      refine Ops.quiet (Qt.move rfl) rfl ?_
      refine Ops.guard rfl rfl rfl rfl (fun g12 => ?_) (fun g12 => ?_)
      · have g12' := g12
        try simp only [decide_eq_true_eq, decide_eq_false_iff_not, beq_iff_eq, beq_eq_false_iff_ne, bne_iff_ne, ne_eq, Bool.not_eq_true', Bool.not_eq_false', bne_eq_false_iff_eq, Bool.not_eq_eq_eq_not, Bool.not_true, Bool.not_false] at g12'
        refine Ops.quiet (Qt.move rfl) rfl ?_
        refine Ops.guard_yes rfl rfl rfl rfl g12 ?_
        refine Ops.quiet (Qt.leq rfl rfl) rfl ?_
        refine Ops.guard_yes rfl rfl rfl rfl g9 ?_
        refine Ops.quiet (Qt.pick_t rfl rfl g12) rfl ?_
        refine Ops.quiet (Qt.pick_f rfl rfl g9) rfl ?_
        refine Ops.quiet (Qt.move rfl) rfl ?_
        refine Ops.guard rfl rfl rfl rfl (fun g17 => ?_) (fun g17 => ?_)
        · have g17' := g17
          try simp only [decide_eq_true_eq, decide_eq_false_iff_not, beq_iff_eq, beq_eq_false_iff_ne, bne_iff_ne, ne_eq, Bool.not_eq_true', Bool.not_eq_false', bne_eq_false_iff_eq, Bool.not_eq_eq_eq_not, Bool.not_true, Bool.not_false] at g17'
          refine Ops.quiet (Qt.move rfl) rfl ?_
          refine Ops.guard_yes rfl rfl rfl rfl g17 ?_
          refine Ops.quiet (Qt.geq rfl rfl) rfl ?_
          refine Ops.guard_yes rfl rfl rfl rfl g17 ?_
          refine Ops.quiet (Qt.move rfl) rfl ?_
          refine Ops.guard rfl rfl rfl rfl (fun g20 => ?_) (fun g20 => ?_)
          · have g20' := g20
            try simp only [decide_eq_true_eq, decide_eq_false_iff_not, beq_iff_eq, beq_eq_false_iff_ne, bne_iff_ne, ne_eq, Bool.not_eq_true', Bool.not_eq_false', bne_eq_false_iff_eq, Bool.not_eq_eq_eq_not, Bool.not_true, Bool.not_false] at g20'
            refine Ops.quiet (Qt.move rfl) rfl ?_
            refine Ops.guard_yes rfl rfl rfl rfl g20 ?_
            refine Ops.quiet (Qt.leq rfl rfl) rfl ?_
            refine Ops.guard_yes rfl rfl rfl rfl g17 ?_
            refine Ops.quiet (Qt.pick_t rfl rfl g20) rfl ?_
            refine Ops.quiet (Qt.pick_f rfl rfl g17) rfl ?_
            refine Ops.quiet (Qt.assign rfl) rfl ?_
            refine Ops.nil ?_
            refine H.then_normal ?_
            refine H.ret ?_
            refine (H.ends rfl (.cons (.tmp rfl) .nil) ?_)
            refine ⟨congrArg bol (Bool.eq_iff_iff.2 ?_), rfl⟩
            simp only [letterB, decide_eq_true_eq, Bool.false_eq_true, eq_self, true_iff, false_iff, iff_true, iff_false]
            first | omega | contradiction
          · have g20' := g20
            try simp only [decide_eq_true_eq, decide_eq_false_iff_not, beq_iff_eq, beq_eq_false_iff_ne, bne_iff_ne, ne_eq, Bool.not_eq_true', Bool.not_eq_false', bne_eq_false_iff_eq, Bool.not_eq_eq_eq_not, Bool.not_true, Bool.not_false] at g20'
            refine Ops.guard_no rfl rfl rfl rfl g20 ?_
            refine Ops.guard_yes rfl rfl rfl rfl g17 ?_
            refine Ops.quiet (Qt.pick_f rfl rfl g20) rfl ?_
            refine Ops.quiet (Qt.pick_f rfl rfl g17) rfl ?_
            refine Ops.quiet (Qt.assign rfl) rfl ?_
            refine Ops.nil ?_
            refine H.then_normal ?_
            refine H.ret ?_
            refine (H.ends rfl (.cons (.tmp rfl) .nil) ?_)
            refine ⟨congrArg bol (Bool.eq_iff_iff.2 ?_), rfl⟩
            simp only [letterB, decide_eq_true_eq, Bool.false_eq_true, eq_self, true_iff, false_iff, iff_true, iff_false]
            first | omega | contradiction
        · have g17' := g17
          try simp only [decide_eq_true_eq, decide_eq_false_iff_not, beq_iff_eq, beq_eq_false_iff_ne, bne_iff_ne, ne_eq, Bool.not_eq_true', Bool.not_eq_false', bne_eq_false_iff_eq, Bool.not_eq_eq_eq_not, Bool.not_true, Bool.not_false] at g17'
          refine Ops.guard_no rfl rfl rfl rfl g17 ?_
          refine Ops.guard_no rfl rfl rfl rfl g17 ?_
          refine Ops.guard_un rfl rfl rfl rfl ?_
          refine Ops.guard_un rfl rfl rfl rfl ?_
          refine Ops.guard_no rfl rfl rfl rfl g17 ?_
          refine Ops.quiet (Qt.pick_t rfl rfl g17) rfl ?_
          refine Ops.quiet (Qt.assign rfl) rfl ?_
          refine Ops.nil ?_
          refine H.then_normal ?_
          refine H.ret ?_
          refine (H.ends rfl (.cons (.tmp rfl) .nil) ?_)
          refine ⟨congrArg bol (Bool.eq_iff_iff.2 ?_), rfl⟩
          simp only [letterB, decide_eq_true_eq, Bool.false_eq_true, eq_self, true_iff, false_iff, iff_true, iff_false]
          first | omega | contradiction
      · have g12' := g12
        try simp only [decide_eq_true_eq, decide_eq_false_iff_not, beq_iff_eq, beq_eq_false_iff_ne, bne_iff_ne, ne_eq, Bool.not_eq_true', Bool.not_eq_false', bne_eq_false_iff_eq, Bool.not_eq_eq_eq_not, Bool.not_true, Bool.not_false] at g12'
        refine Ops.guard_no rfl rfl rfl rfl g12 ?_
        refine Ops.guard_yes rfl rfl rfl rfl g9 ?_
        refine Ops.quiet (Qt.pick_f rfl rfl g12) rfl ?_
        refine Ops.quiet (Qt.pick_f rfl rfl g9) rfl ?_
        refine Ops.quiet (Qt.move rfl) rfl ?_
        refine Ops.guard rfl rfl rfl rfl (fun g17 => ?_) (fun g17 => ?_)
        · have g17' := g17
          try simp only [decide_eq_true_eq, decide_eq_false_iff_not, beq_iff_eq, beq_eq_false_iff_ne, bne_iff_ne, ne_eq, Bool.not_eq_true', Bool.not_eq_false', bne_eq_false_iff_eq, Bool.not_eq_eq_eq_not, Bool.not_true, Bool.not_false] at g17'
          refine Ops.quiet (Qt.move rfl) rfl ?_
          refine Ops.guard_yes rfl rfl rfl rfl g17 ?_
          refine Ops.quiet (Qt.geq rfl rfl) rfl ?_
          refine Ops.guard_yes rfl rfl rfl rfl g17 ?_
          refine Ops.quiet (Qt.move rfl) rfl ?_
          refine Ops.guard rfl rfl rfl rfl (fun g20 => ?_) (fun g20 => ?_)
          · have g20' := g20
            try simp only [decide_eq_true_eq, decide_eq_false_iff_not, beq_iff_eq, beq_eq_false_iff_ne, bne_iff_ne, ne_eq, Bool.not_eq_true', Bool.not_eq_false', bne_eq_false_iff_eq, Bool.not_eq_eq_eq_not, Bool.not_true, Bool.not_false] at g20'
            refine Ops.quiet (Qt.move rfl) rfl ?_
            refine Ops.guard_yes rfl rfl rfl rfl g20 ?_
            refine Ops.quiet (Qt.leq rfl rfl) rfl ?_
            refine Ops.guard_yes rfl rfl rfl rfl g17 ?_
            refine Ops.quiet (Qt.pick_t rfl rfl g20) rfl ?_
            refine Ops.quiet (Qt.pick_f rfl rfl g17) rfl ?_
            refine Ops.quiet (Qt.assign rfl) rfl ?_
            refine Ops.nil ?_
            refine H.then_normal ?_
            refine H.ret ?_
            refine (H.ends rfl (.cons (.tmp rfl) .nil) ?_)
            refine ⟨congrArg bol (Bool.eq_iff_iff.2 ?_), rfl⟩
            simp only [letterB, decide_eq_true_eq, Bool.false_eq_true, eq_self, true_iff, false_iff, iff_true, iff_false]
            first | omega | contradiction
          · have g20' := g20
            try simp only [decide_eq_true_eq, decide_eq_false_iff_not, beq_iff_eq, beq_eq_false_iff_ne, bne_iff_ne, ne_eq, Bool.not_eq_true', Bool.not_eq_false', bne_eq_false_iff_eq, Bool.not_eq_eq_eq_not, Bool.not_true, Bool.not_false] at g20'
            refine Ops.guard_no rfl rfl rfl rfl g20 ?_
            refine Ops.guard_yes rfl rfl rfl rfl g17 ?_
            refine Ops.quiet (Qt.pick_f rfl rfl g20) rfl ?_
            refine Ops.quiet (Qt.pick_f rfl rfl g17) rfl ?_
            refine Ops.quiet (Qt.assign rfl) rfl ?_
            refine Ops.nil ?_
            refine H.then_normal ?_
            refine H.ret ?_
            refine (H.ends rfl (.cons (.tmp rfl) .nil) ?_)
            refine ⟨congrArg bol (Bool.eq_iff_iff.2 ?_), rfl⟩
            simp only [letterB, decide_eq_true_eq, Bool.false_eq_true, eq_self, true_iff, false_iff, iff_true, iff_false]
            first | omega | contradiction
        · have g17' := g17
          try simp only [decide_eq_true_eq, decide_eq_false_iff_not, beq_iff_eq, beq_eq_false_iff_ne, bne_iff_ne, ne_eq, Bool.not_eq_true', Bool.not_eq_false', bne_eq_false_iff_eq, Bool.not_eq_eq_eq_not, Bool.not_true, Bool.not_false] at g17'
          refine Ops.guard_no rfl rfl rfl rfl g17 ?_
          refine Ops.guard_no rfl rfl rfl rfl g17 ?_
          refine Ops.guard_un rfl rfl rfl rfl ?_
          refine Ops.guard_un rfl rfl rfl rfl ?_
          refine Ops.guard_no rfl rfl rfl rfl g17 ?_
          refine Ops.quiet (Qt.pick_t rfl rfl g17) rfl ?_
          refine Ops.quiet (Qt.assign rfl) rfl ?_
          refine Ops.nil ?_
          refine H.then_normal ?_
          refine H.ret ?_
          refine (H.ends rfl (.cons (.tmp rfl) .nil) ?_)
          refine ⟨congrArg bol (Bool.eq_iff_iff.2 ?_), rfl⟩
          simp only [letterB, decide_eq_true_eq, Bool.false_eq_true, eq_self, true_iff, false_iff, iff_true, iff_false]
          first | omega | contradiction
    · have g9' := g9
      try simp only [decide_eq_true_eq, decide_eq_false_iff_not, beq_iff_eq, beq_eq_false_iff_ne, bne_iff_ne, ne_eq, Bool.not_eq_true', Bool.not_eq_false', bne_eq_false_iff_eq, Bool.not_eq_eq_eq_not, Bool.not_true, Bool.not_false] at g9'
      refine Ops.guard_no rfl rfl rfl rfl g9 ?_
      refine Ops.guard_no rfl rfl rfl rfl g9 ?_
      refine Ops.guard_un rfl rfl rfl rfl ?_
      refine Ops.guard_un rfl rfl rfl rfl ?_
      refine Ops.guard_no rfl rfl rfl rfl g9 ?_
      refine Ops.quiet (Qt.pick_t rfl rfl g9) rfl ?_
      refine Ops.quiet (Qt.move rfl) rfl ?_
      refine Ops.guard rfl rfl rfl rfl (fun g17 => ?_) (fun g17 => ?_)
      · have g17' := g17
        try simp only [decide_eq_true_eq, decide_eq_false_iff_not, beq_iff_eq, beq_eq_false_iff_ne, bne_iff_ne, ne_eq, Bool.not_eq_true', Bool.not_eq_false', bne_eq_false_iff_eq, Bool.not_eq_eq_eq_not, Bool.not_true, Bool.not_false] at g17'
        refine Ops.quiet (Qt.move rfl) rfl ?_
        refine Ops.guard_yes rfl rfl rfl rfl g17 ?_
        refine Ops.quiet (Qt.geq rfl rfl) rfl ?_
        refine Ops.guard_yes rfl rfl rfl rfl g17 ?_
        refine Ops.quiet (Qt.move rfl) rfl ?_
        refine Ops.guard rfl rfl rfl rfl (fun g20 => ?_) (fun g20 => ?_)
        · have g20' := g20
          try simp only [decide_eq_true_eq, decide_eq_false_iff_not, beq_iff_eq, beq_eq_false_iff_ne, bne_iff_ne, ne_eq, Bool.not_eq_true', Bool.not_eq_false', bne_eq_false_iff_eq, Bool.not_eq_eq_eq_not, Bool.not_true, Bool.not_false] at g20'
          refine Ops.quiet (Qt.move rfl) rfl ?_
          refine Ops.guard_yes rfl rfl rfl rfl g20 ?_
          refine Ops.quiet (Qt.leq rfl rfl) rfl ?_
          refine Ops.guard_yes rfl rfl rfl rfl g17 ?_
          refine Ops.quiet (Qt.pick_t rfl rfl g20) rfl ?_
          refine Ops.quiet (Qt.pick_f rfl rfl g17) rfl ?_
          refine Ops.quiet (Qt.assign rfl) rfl ?_
          refine Ops.nil ?_
          refine H.then_normal ?_
          refine H.ret ?_
          refine (H.ends rfl (.cons (.tmp rfl) .nil) ?_)
          refine ⟨congrArg bol (Bool.eq_iff_iff.2 ?_), rfl⟩
          simp only [letterB, decide_eq_true_eq, Bool.false_eq_true, eq_self, true_iff, false_iff, iff_true, iff_false]
          first | omega | contradiction
        · have g20' := g20
          try simp only [decide_eq_true_eq, decide_eq_false_iff_not, beq_iff_eq, beq_eq_false_iff_ne, bne_iff_ne, ne_eq, Bool.not_eq_true', Bool.not_eq_false', bne_eq_false_iff_eq, Bool.not_eq_eq_eq_not, Bool.not_true, Bool.not_false] at g20'
          refine Ops.guard_no rfl rfl rfl rfl g20 ?_
          refine Ops.guard_yes rfl rfl rfl rfl g17 ?_
          refine Ops.quiet (Qt.pick_f rfl rfl g20) rfl ?_
          refine Ops.quiet (Qt.pick_f rfl rfl g17) rfl ?_
          refine Ops.quiet (Qt.assign rfl) rfl ?_
          refine Ops.nil ?_
          refine H.then_normal ?_
          refine H.ret ?_
          refine (H.ends rfl (.cons (.tmp rfl) .nil) ?_)
          refine ⟨congrArg bol (Bool.eq_iff_iff.2 ?_), rfl⟩
          simp only [letterB, decide_eq_true_eq, Bool.false_eq_true, eq_self, true_iff, false_iff, iff_true, iff_false]
          first | omega | contradiction
      · have g17' := g17
        try simp only [decide_eq_true_eq, decide_eq_false_iff_not, beq_iff_eq, beq_eq_false_iff_ne, bne_iff_ne, ne_eq, Bool.not_eq_true', Bool.not_eq_false', bne_eq_false_iff_eq, Bool.not_eq_eq_eq_not, Bool.not_true, Bool.not_false] at g17'
        refine Ops.guard_no rfl rfl rfl rfl g17 ?_
        refine Ops.guard_no rfl rfl rfl rfl g17 ?_
        refine Ops.guard_un rfl rfl rfl rfl ?_
        refine Ops.guard_un rfl rfl rfl rfl ?_
        refine Ops.guard_no rfl rfl rfl rfl g17 ?_
        refine Ops.quiet (Qt.pick_t rfl rfl g17) rfl ?_
        refine Ops.quiet (Qt.assign rfl) rfl ?_
        refine Ops.nil ?_
        refine H.then_normal ?_
        refine H.ret ?_
        refine (H.ends rfl (.cons (.tmp rfl) .nil) ?_)
        refine ⟨congrArg bol (Bool.eq_iff_iff.2 ?_), rfl⟩
        simp only [letterB, decide_eq_true_eq, Bool.false_eq_true, eq_self, true_iff, false_iff, iff_true, iff_false]
        first | omega | contradiction
theorem splitC_count (c : UInt8) (s : Bs) : (splitC c s).length ≤ s.length + 1 := by
  induction s with
  | nil => simp [splitC]
  | cons x s ih =>
    unfold splitC
    split
    · simp; omega
    · cases hs : splitC c s with
      | nil => simp
      | cons p ps => rw [hs] at ih; simp at ih ⊢; omega
theorem set_last {α : Type} {l : List α} (h : l ≠ []) (y : α) : l.set (l.length - 1) y = l.dropLast ++ [y] := by
  have h1 := List.dropLast_concat_getLast h
  have h2 : l.dropLast.length = l.length - 1 := List.length_dropLast
  conv => lhs; rw [← h1]
  rw [List.set_append_right _ _ (by simp)]
  simp
theorem getD_last {α : Type} {l : List α} (h : l ≠ []) (d : α) : l.getD (l.length - 1) d = l.getLast h := by
  rw [List.getLast_eq_getElem, List.getD_eq_getElem?_getD, List.getElem?_eq_getElem (by have := List.length_pos_iff.2 h; omega)]
  rfl
theorem spec_rcut (w0 : World) (s : Bs) (c : UInt8) (hl : s.length ≤ 1000000000000) (cs : List SProp) : Spec Tryz.prog w0 86 [str s, u8v c] cs (fun v cs' => ∃ A q, v = .slice A (splitC c s).length q ∧ cs' = osl 9 A (splitC c s).length q ((splitC c s).map str) :: cs) := by
  refine Spec.of_body Tryz.func86 rfl Tryz.ntmps86 rfl ?_
  refine H.seq ?_
  refine H.region ?_
  refine Ops.quiet (Qt.assign rfl) rfl ?_
  refine Ops.nil ?_
  refine H.then_normal ?_
  refine H.seq ?_
  refine H.region ?_
  refine Ops.eff (Ef.buildSlice (tk rfl) (tk rfl) rfl (zk rfl) rfl rfl rfl (by repeat (first | exact ones_nil | refine ones_cons rfl ?_))) rfl ?_
  rintro _ _ ⟨A7, c7, rfl, rfl⟩
  refine Ops.quiet (Qt.assign rfl) rfl ?_
  refine Ops.nil ?_
  refine H.then_normal ?_
  refine H.seq ?_
  refine H.seq ?_
  refine H.region ?_
  refine Ops.quiet (Qt.assign rfl) rfl ?_
  refine Ops.nil ?_
  refine H.then_normal ?_
  refine H.block ?_
  refine H.loop (X := Nat × Option Addr × Nat) (fun p => [(0, str s), (1, u8v c), (5, .slice p.2.1 (splitC c (s.take p.1)).length p.2.2), (6, num p.1)]) (fun p => osl 9 p.2.1 (splitC c (s.take p.1)).length p.2.2 ((splitC c (s.take p.1)).map str) :: cs) (fun p => p.1 ≤ s.length) (fun p => s.length - p.1) (0, A7, c7) (Nat.zero_le _) (by repeat (first | exact trivial | refine ⟨rfl, ?_⟩)) (fun w hw => hw) ?_
  rintro ⟨i, A, q⟩ hi
  simp only at hi
  obtain ⟨L, hL⟩ : ∃ L, L = splitC c (s.take i) := ⟨_, rfl⟩
  have hLn : L ≠ [] := hL ▸ splitC_ne _ _
  have hLl : L.length ≤ i + 1 := by rw [hL]; have := splitC_count c (s.take i); rw [List.length_take] at this; omega
  have hLm : ∀ a ∈ L, a.length ≤ s.length := by
    intro a ha
    have := splitC_len c (s.take i) a (hL ▸ ha)
    rw [List.length_take] at this; omega
  change H _ _ [(0, str s), (1, u8v c), (5, .slice A (splitC c (s.take i)).length q), (6, num (i : Int))] (osl 9 A (splitC c (s.take i)).length q ((splitC c (s.take i)).map str) :: cs) _
  rw [← hL]
  have hL0 : 0 < L.length := List.length_pos_iff.2 hLn
  refine H.seq ?_
  refine H.seq ?_
  refine H.region ?_
  refine Ops.quiet (Qt.move rfl) rfl ?_
  refine Ops.quiet (Qt.move rfl) rfl ?_
  refine Ops.quiet (Qt.len_str rfl (tk rfl)) rfl ?_
  refine Ops.quiet (Qt.lss rfl rfl) rfl ?_
  refine Ops.nil ?_
  refine H.then_normal ?_
  refine H.cond rfl (fun h11 => ?_) (fun h11 => ?_)
  · try simp only [decide_eq_true_eq, decide_eq_false_iff_not, beq_iff_eq, beq_eq_false_iff_ne, bne_iff_ne, ne_eq, Bool.not_eq_true', Bool.not_eq_false', bne_eq_false_iff_eq, Bool.not_eq_eq_eq_not, Bool.not_true, Bool.not_false] at h11
    refine H.skip ?_
    refine H.then_normal ?_
    refine H.seq ?_
    refine H.block ?_
    refine H.seq ?_
    have hi2 : i < s.length := by omega
    have hsn : splitC c (s.take (i + 1)) = if s.getD i 0 = c then L ++ [[]] else L.dropLast ++ [L.getLast hLn ++ [s.getD i 0]] := by
      have hg : s.getD i 0 = s[i] := by simp [List.getD_eq_getElem?_getD, hi2]
      rw [List.take_succ_eq_append_getElem hi2, splitC_snoc, hg]
      simp only [hL]
    refine H.region ?_
    refine Ops.quiet (Qt.move rfl) rfl ?_
    refine Ops.quiet (Qt.move rfl) rfl ?_
    refine Ops.quiet (Qt.sidx rfl rfl (tk rfl) (by omega) (by omega)) rfl ?_
    refine Ops.quiet (Qt.move rfl) rfl ?_
    refine Ops.quiet (Qt.eql rfl rfl) rfl ?_
    refine Ops.nil ?_
    refine H.then_normal ?_
    refine H.cond rfl (fun h18 => ?_) (fun h18 => ?_)
    · try simp only [decide_eq_true_eq, decide_eq_false_iff_not, beq_iff_eq, beq_eq_false_iff_ne, bne_iff_ne, ne_eq, Bool.not_eq_true', Bool.not_eq_false', bne_eq_false_iff_eq, Bool.not_eq_eq_eq_not, Bool.not_true, Bool.not_false] at h18
      refine H.region ?_
      refine Ops.quiet (Qt.move rfl) rfl ?_
      refine Ops.eff (Ef.buildSlice (tk rfl) (tk rfl) rfl (zk rfl) rfl rfl rfl (by repeat (first | exact ones_nil | refine ones_cons rfl ?_))) rfl ?_
      rintro _ _ ⟨A20, c20, rfl, rfl⟩
      refine Ops.eff (Ef.append1 (f := str) (l := L) (b := []) rfl rfl (tk rfl) (tk rfl) rfl (zk rfl) (by repeat (first | assumption | exact Reads.of_head | apply Reads.tail)) (by intro _ _; repeat (first | exact Upd.head | apply Upd.tail)) (fun _ => rfl) (by dsimp only; omega) (by simp only [maxLen]; omega)) rfl ?_
      rintro _ _ ⟨A21, c21, rfl, rfl⟩
      refine Ops.quiet (Qt.assign rfl) rfl ?_
      refine Ops.nil ?_
      refine H.blk_normal ?_
      refine H.then_normal ?_
      refine H.region ?_
      refine Ops.quiet (Qt.move rfl) rfl ?_
      refine Ops.quiet (Qt.addk rfl rfl (by first | exact IntWalk.i64_in _ (by omega) | exact IntWalk.u8_in _ (by omega) | exact IntWalk.u64_in _ (by omega) | exact IntWalk.u32_in _ (by omega) | exact IntWalk.u16_in _ (by omega))) rfl ?_
      refine Ops.quiet (Qt.assign rfl) rfl ?_
      refine Ops.nil ?_
      refine H.then_normal ?_
      have hx : s.getD i 0 = c := u8_eq h18
      rw [if_pos hx] at hsn
      have hsl2 : (splitC c (s.take (i + 1))).length = L.length + 1 := by rw [hsn]; simp
      refine H.round (i + 1, A21, c21) (by show i + 1 ≤ s.length; omega) (by simp only []; omega) (by simp only [hsl2]; repeat (first | exact trivial | refine ⟨rfl, ?_⟩)) (fun w hw => ?_)
      show Own _ _ (osl 9 A21 (splitC c (s.take (i + 1))).length c21 ((splitC c (s.take (i + 1))).map str) :: cs)
      rw [hsl2, hsn]
      exact hw.tail
    · try simp only [decide_eq_true_eq, decide_eq_false_iff_not, beq_iff_eq, beq_eq_false_iff_ne, bne_iff_ne, ne_eq, Bool.not_eq_true', Bool.not_eq_false', bne_eq_false_iff_eq, Bool.not_eq_eq_eq_not, Bool.not_true, Bool.not_false] at h18
      have hll : L.getD ((L.length : Int) - 1).toNat [] = L.getLast hLn := by
        have : ((L.length : Int) - 1).toNat = L.length - 1 := by omega
        rw [this, getD_last hLn]
      have hlm := hLm _ (List.getLast_mem hLn)
      have hsl : (s.drop (i : Int).toNat).take (((i : Int) + 1).toNat - (i : Int).toNat) = [s.getD i 0] := by
        have e1 : ((i : Int) + 1).toNat - (i : Int).toNat = 1 := by omega
        have e2 : (i : Int).toNat = i := by omega
        have hg : s.getD i 0 = s[i] := by simp [List.getD_eq_getElem?_getD, hi2]
        rw [e1, e2, hg, List.drop_eq_getElem_cons hi2]
        rfl
      refine H.drawn_all 16 mixed (by kernel_rfl) ?_
      refine Hd.quiet 0 (by kernel_rfl) rfl rfl (by kernel_rfl) rfl (Qt.move rfl) ?_
      refine Hd.quiet 1 (by kernel_rfl) rfl rfl (by kernel_rfl) rfl (Qt.move rfl) ?_
      refine Hd.quiet 2 (by kernel_rfl) rfl rfl (by kernel_rfl) rfl (Qt.len_sl (ats := #[]) rfl (tk rfl)) ?_
      refine Hd.quiet 3 (by kernel_rfl) rfl rfl (by kernel_rfl) rfl (Qt.subk rfl rfl (by first | exact IntWalk.i64_in _ (by omega) | exact IntWalk.u8_in _ (by omega) | exact IntWalk.u64_in _ (by omega) | exact IntWalk.u32_in _ (by omega) | exact IntWalk.u16_in _ (by omega))) ?_
      refine Hd.quiet 4 (by kernel_rfl) rfl rfl (by kernel_rfl) rfl (Qt.move rfl) ?_
      refine Hd.quiet 5 (by kernel_rfl) rfl rfl (by kernel_rfl) rfl (Qt.move rfl) ?_
      refine Hd.quiet 6 (by kernel_rfl) rfl rfl (by kernel_rfl) rfl (Qt.len_sl (ats := #[]) rfl (tk rfl)) ?_
      refine Hd.quiet 7 (by kernel_rfl) rfl rfl (by kernel_rfl) rfl (Qt.subk rfl rfl (by first | exact IntWalk.i64_in _ (by omega) | exact IntWalk.u8_in _ (by omega) | exact IntWalk.u64_in _ (by omega) | exact IntWalk.u32_in _ (by omega) | exact IntWalk.u16_in _ (by omega))) ?_
      refine Hd.quiet 8 (by kernel_rfl) rfl rfl (by kernel_rfl) rfl (Qt.indexAddr rfl rfl (tk rfl) (tk rfl) rfl (by repeat (first | assumption | exact Reads.of_head | apply Reads.tail)) (by omega) (by omega)) ?_
      refine Hd.quiet 9 (by kernel_rfl) rfl rfl (by kernel_rfl) rfl (Qt.cast (Qt.load_map ([] : Bs) rfl (tk rfl) rfl (by repeat (first | assumption | exact Reads.of_head | apply Reads.tail)) (by omega)) (congrArg str hll)) ?_
      refine Hd.quiet 10 (by kernel_rfl) rfl rfl (by kernel_rfl) rfl (Qt.move rfl) ?_
      refine Hd.quiet 11 (by kernel_rfl) rfl rfl (by kernel_rfl) rfl (Qt.move rfl) ?_
      refine Hd.quiet 12 (by kernel_rfl) rfl rfl (by kernel_rfl) rfl (Qt.move rfl) ?_
      refine Hd.quiet 13 (by kernel_rfl) rfl rfl (by kernel_rfl) rfl (Qt.addk rfl rfl (by first | exact IntWalk.i64_in _ (by omega) | exact IntWalk.u8_in _ (by omega) | exact IntWalk.u64_in _ (by omega) | exact IntWalk.u32_in _ (by omega) | exact IntWalk.u16_in _ (by omega))) ?_
      refine Hd.quiet 14 (by kernel_rfl) rfl rfl (by kernel_rfl) rfl (Qt.cast (Qt.sslice rfl (tk rfl) rfl rfl (by omega) (by omega) (by omega)) (congrArg str hsl)) ?_
      refine Hd.quiet 15 (by kernel_rfl) rfl rfl (by kernel_rfl) rfl (Qt.cat rfl rfl (by show (L.getLast hLn).length + 1 ≤ _; omega)) ?_
      refine Hd.tail (by intro w hw; first | exact hw | exact Own.sub (by repeat (first | exact List.Sublist.refl _ | exact List.nil_sublist _ | apply List.Sublist.cons_cons | apply List.Sublist.cons)) hw) (by kernel_rfl) rfl ?_
      refine Ops.quiet (Qt.indexAddr rfl rfl (tk rfl) (tk rfl) rfl (by repeat (first | assumption | exact Reads.of_head | apply Reads.tail)) (by omega) (by omega)) rfl ?_
      refine Ops.eff (Ef.store_map (f := str) (l := L) (b := L.getLast hLn ++ [s.getD i 0]) rfl rfl (tk rfl) rfl (fun _ => rfl) (by repeat (first | exact Upd.head | apply Upd.tail)) (by omega)) rfl ?_
      rintro _ _ rfl
      refine Ops.nil ?_
      refine H.blk_normal ?_
      refine H.then_normal ?_
      refine H.region ?_
      refine Ops.quiet (Qt.move rfl) rfl ?_
      refine Ops.quiet (Qt.addk rfl rfl (by first | exact IntWalk.i64_in _ (by omega) | exact IntWalk.u8_in _ (by omega) | exact IntWalk.u64_in _ (by omega) | exact IntWalk.u32_in _ (by omega) | exact IntWalk.u16_in _ (by omega))) rfl ?_
      refine Ops.quiet (Qt.assign rfl) rfl ?_
      refine Ops.nil ?_
      refine H.then_normal ?_
      have hx : ¬ s.getD i 0 = c := fun e => h18 (by show ((s.getD i 0).toNat : Int) = _; rw [e])
      rw [if_neg hx] at hsn
      have hsl2 : (splitC c (s.take (i + 1))).length = L.length := by rw [hsn]; simp; omega
      have e3 : L.set ((L.length : Int) - 1).toNat (L.getLast hLn ++ [s.getD i 0]) = splitC c (s.take (i + 1)) := by
        have : ((L.length : Int) - 1).toNat = L.length - 1 := by omega
        rw [this, set_last hLn, hsn]
      refine H.round (i + 1, A, q) (by show i + 1 ≤ s.length; omega) (by simp only []; omega) (by simp only [hsl2]; repeat (first | exact trivial | refine ⟨rfl, ?_⟩)) (fun w hw => ?_)
      show Own _ _ (osl 9 A (splitC c (s.take (i + 1))).length q ((splitC c (s.take (i + 1))).map str) :: cs)
      rw [hsl2, ← e3]
      exact hw
  · try simp only [decide_eq_true_eq, decide_eq_false_iff_not, beq_iff_eq, beq_eq_false_iff_ne, bne_iff_ne, ne_eq, Bool.not_eq_true', Bool.not_eq_false', bne_eq_false_iff_eq, Bool.not_eq_eq_eq_not, Bool.not_true, Bool.not_false] at h11
    refine H.exit ?_
    refine H.then_exit ?_
    refine H.then_exit ?_
    refine H.blk_hit ?_
    refine H.then_normal ?_
    refine H.seq ?_
    refine H.region ?_
    refine Ops.quiet (Qt.move rfl) rfl ?_
    refine Ops.quiet (Qt.assign rfl) rfl ?_
    refine Ops.nil ?_
    refine H.then_normal ?_
    refine H.ret ?_
    have e1 : s.take i = s := List.take_of_length_le (by omega)
    rw [hL, e1]
    refine (H.ends rfl (.cons (.tmp rfl) .nil) ?_)
    exact ⟨A, q, rfl, rfl⟩
theorem spec_rlocal (w0 : World) (s : Bs) (hl : s.length ≤ 9223372036854775806) (cs : List SProp) : Spec Tryz.prog w0 73 [str s] cs (fun v cs' => v = bol (localB s) ∧ cs' = cs) := by
  refine Spec.of_body Tryz.func73 rfl Tryz.ntmps73 rfl ?_
  refine H.seq ?_
  refine H.region ?_
  refine Ops.quiet (Qt.assign rfl) rfl ?_
  refine Ops.nil ?_
  refine H.then_normal ?_
  refine H.seq ?_
  refine H.seq ?_
  refine H.region ?_
  refine Ops.quiet (Qt.move rfl) rfl ?_
  refine Ops.quiet (Qt.len_str rfl (tk rfl)) rfl ?_
  refine Ops.quiet (Qt.gtr rfl rfl) rfl ?_
  refine Ops.nil ?_
  refine H.then_normal ?_
  refine H.cond rfl (fun h8 => ?_) (fun h8 => ?_)
  · try simp only [decide_eq_true_eq, decide_eq_false_iff_not, beq_iff_eq, beq_eq_false_iff_ne, bne_iff_ne, ne_eq, Bool.not_eq_true', Bool.not_eq_false', bne_eq_false_iff_eq, Bool.not_eq_eq_eq_not, Bool.not_true, Bool.not_false] at h8
    refine H.seq ?_
    refine H.region ?_
    refine Ops.quiet (Qt.assign rfl) rfl ?_
    refine Ops.nil ?_
    refine H.then_normal ?_
    refine H.ret ?_
    refine H.then_ret ?_
    refine (H.ends rfl (.cons (.tmp rfl) .nil) ?_)
    refine ⟨congrArg bol ?_, rfl⟩
    rw [localB, decide_eq_false (by omega)]
    rfl
  · try simp only [decide_eq_true_eq, decide_eq_false_iff_not, beq_iff_eq, beq_eq_false_iff_ne, bne_iff_ne, ne_eq, Bool.not_eq_true', Bool.not_eq_false', bne_eq_false_iff_eq, Bool.not_eq_eq_eq_not, Bool.not_true, Bool.not_false] at h8
    refine H.skip ?_
    refine H.then_normal ?_
    refine H.seq ?_
    refine H.region ?_
    refine Ops.quiet (Qt.move rfl) rfl ?_
    refine Ops.eff (Ef.call (fok fab_all rfl Tryz.func86 rfl) rfl (spec_rcut w0 s 46 (by omega) _)) rfl ?_
    rintro _ _ ⟨A10, q10, rfl, rfl⟩
    refine Ops.quiet (Qt.assign rfl) rfl ?_
    refine Ops.nil ?_
    refine H.then_normal ?_
    refine H.seq ?_
    refine H.seq ?_
    refine H.region ?_
    refine Ops.quiet (Qt.assign rfl) rfl ?_
    refine Ops.nil ?_
    refine H.then_normal ?_
    refine H.block ?_
    obtain ⟨L, hL⟩ : ∃ L, L = splitC 46 s := ⟨_, rfl⟩
    have hLl : L.length ≤ 65 := by rw [hL]; have := splitC_count 46 s; omega
    have hLm : ∀ a ∈ L, a.length ≤ 64 := by
      intro a ha
      have := splitC_len 46 s a (hL ▸ ha)
      omega
    rw [← hL]
    refine H.loop (X := Nat) (fun i => [(3, .slice A10 L.length q10), (4, num i)]) (fun i => osl 9 A10 L.length q10 (L.map str) :: cs) (fun i => i ≤ L.length ∧ (L.take i).any (fun a => !(allB atomB a)) = false) (fun i => L.length - i) 0 ⟨Nat.zero_le _, rfl⟩ (by repeat (first | exact trivial | refine ⟨rfl, ?_⟩)) (fun w hw => hw) ?_
    intro i ⟨hi, ha⟩
    refine H.seq ?_
    refine H.seq ?_
    refine H.region ?_
    refine Ops.quiet (Qt.move rfl) rfl ?_
    refine Ops.quiet (Qt.move rfl) rfl ?_
    refine Ops.quiet (Qt.len_sl (ats := #[]) rfl (tk rfl)) rfl ?_
    refine Ops.quiet (Qt.lss rfl rfl) rfl ?_
    refine Ops.nil ?_
    refine H.then_normal ?_
    refine H.cond rfl (fun h14 => ?_) (fun h14 => ?_)
    · try simp only [decide_eq_true_eq, decide_eq_false_iff_not, beq_iff_eq, beq_eq_false_iff_ne, bne_iff_ne, ne_eq, Bool.not_eq_true', Bool.not_eq_false', bne_eq_false_iff_eq, Bool.not_eq_eq_eq_not, Bool.not_true, Bool.not_false] at h14
      refine H.skip ?_
      refine H.then_normal ?_
      refine H.seq ?_
      refine H.block ?_
      refine H.seq ?_
      refine H.seq ?_
      have hi2 : i < L.length := by omega
      obtain ⟨p, hp⟩ : ∃ p, p = L.getD (i : Int).toNat [] := ⟨_, rfl⟩
      have hp2 : p = L[i] := by rw [hp]; show L.getD i [] = _; simp [List.getD_eq_getElem?_getD, hi2]
      have hpl : p.length ≤ 64 := hLm p (hp2 ▸ List.getElem_mem hi2)
      have hsu := any_take_succ (fun a => !(allB atomB a)) L i hi2
      have hbad : allB atomB p = false → localB s = false := fun h => by
        have : (splitC 46 s).any (fun a => !(allB atomB a)) = true := List.any_eq_true.2 ⟨p, by rw [← hL, hp2]; exact List.getElem_mem hi2, by rw [h]; rfl⟩
        rw [localB, this]; simp
      rw [← hp2] at hsu
      refine H.region ?_
      refine Ops.quiet (Qt.move rfl) rfl ?_
      refine Ops.quiet (Qt.move rfl) rfl ?_
      refine Ops.quiet (Qt.indexAddr rfl rfl (tk rfl) (tk rfl) rfl (by repeat (first | assumption | exact Reads.of_head | apply Reads.tail)) (by omega) (by omega)) rfl ?_
      refine Ops.quiet (Qt.cast (Qt.load_map ([] : Bs) rfl (tk rfl) rfl (by repeat (first | assumption | exact Reads.of_head | apply Reads.tail)) (by omega)) (congrArg str hp.symm)) rfl ?_
      refine Ops.quiet (Qt.seq rfl rfl) rfl ?_
      refine Ops.nil ?_
      refine H.then_normal ?_
      refine H.cond rfl (fun h21 => ?_) (fun h21 => ?_)
      · try simp only [decide_eq_true_eq, decide_eq_false_iff_not, beq_iff_eq, beq_eq_false_iff_ne, bne_iff_ne, ne_eq, Bool.not_eq_true', Bool.not_eq_false', bne_eq_false_iff_eq, Bool.not_eq_eq_eq_not, Bool.not_true, Bool.not_false] at h21
        refine H.seq ?_
        refine H.region ?_
        refine Ops.quiet (Qt.assign rfl) rfl ?_
        refine Ops.nil ?_
        refine H.then_normal ?_
        refine H.ret ?_
        refine H.then_ret ?_
        refine H.blk_ret ?_
        refine H.then_ret ?_
        refine H.then_ret ?_
        refine H.blk_ret ?_
        refine H.then_ret ?_
        refine (H.ends_to (cs' := cs) rfl (.cons (.tmp rfl) .nil) (fun w hw => ?_) ?_)
        · exact hw.tail
        · refine ⟨congrArg bol ?_, rfl⟩
          rw [hbad (by rw [h21]; rfl)]
      · try simp only [decide_eq_true_eq, decide_eq_false_iff_not, beq_iff_eq, beq_eq_false_iff_ne, bne_iff_ne, ne_eq, Bool.not_eq_true', Bool.not_eq_false', bne_eq_false_iff_eq, Bool.not_eq_eq_eq_not, Bool.not_true, Bool.not_false] at h21
        refine H.skip ?_
        refine H.then_normal ?_
        refine H.seq ?_
        refine H.region ?_
        refine Ops.quiet (Qt.assign rfl) rfl ?_
        refine Ops.nil ?_
        refine H.then_normal ?_
        refine H.block ?_
        refine H.loop (X := Nat) (fun k => [(3, .slice A10 L.length q10), (4, num i), (5, num k)]) (fun k => osl 9 A10 L.length q10 (L.map str) :: cs) (fun k => k ≤ p.length ∧ (p.take k).all atomB = true) (fun k => p.length - k) 0 ⟨Nat.zero_le _, rfl⟩ (by repeat (first | exact trivial | refine ⟨rfl, ?_⟩)) (fun w hw => hw) ?_
        intro k ⟨hk, hal⟩
        refine H.seq ?_
        refine H.seq ?_
        refine H.region ?_
        refine Ops.quiet (Qt.move rfl) rfl ?_
        refine Ops.quiet (Qt.move rfl) rfl ?_
        refine Ops.quiet (Qt.move rfl) rfl ?_
        refine Ops.quiet (Qt.indexAddr rfl rfl (tk rfl) (tk rfl) rfl (by repeat (first | assumption | exact Reads.of_head | apply Reads.tail)) (by omega) (by omega)) rfl ?_
        refine Ops.quiet (Qt.cast (Qt.load_map ([] : Bs) rfl (tk rfl) rfl (by repeat (first | assumption | exact Reads.of_head | apply Reads.tail)) (by omega)) (congrArg str hp.symm)) rfl ?_
        refine Ops.quiet (Qt.len_str rfl (tk rfl)) rfl ?_
        refine Ops.quiet (Qt.lss rfl rfl) rfl ?_
        refine Ops.nil ?_
        refine H.then_normal ?_
        refine H.cond rfl (fun h28 => ?_) (fun h28 => ?_)
        · try simp only [decide_eq_true_eq, decide_eq_false_iff_not, beq_iff_eq, beq_eq_false_iff_ne, bne_iff_ne, ne_eq, Bool.not_eq_true', Bool.not_eq_false', bne_eq_false_iff_eq, Bool.not_eq_eq_eq_not, Bool.not_true, Bool.not_false] at h28
          refine H.skip ?_
          refine H.then_normal ?_
          refine H.seq ?_
          refine H.block ?_
          refine H.seq ?_
          have hk2 : k < p.length := by omega
          have hg : p.getD (k : Int).toNat 0 = p[k] := by show p.getD k 0 = _; simp [List.getD_eq_getElem?_getD, hk2]
          have hau : (p.take (k + 1)).all atomB = ((p.take k).all atomB && atomB p[k]) := by rw [List.take_succ_eq_append_getElem hk2, List.all_append]; simp
          have hatom : atomB p[k] = (letterB p[k] || atoms.contains p[k]) := by rw [atomB, indexByte_contains]
          have hno : atomB p[k] = false → localB s = false := fun h => hbad (by
            have : p.all atomB = false := List.all_eq_false.2 ⟨_, List.getElem_mem hk2, by rw [h]; simp⟩
            rw [allB, this]; rfl)
          refine H.region ?_
          refine Ops.quiet (Qt.move rfl) rfl ?_
          refine Ops.quiet (Qt.move rfl) rfl ?_
          refine Ops.quiet (Qt.indexAddr rfl rfl (tk rfl) (tk rfl) rfl (by repeat (first | assumption | exact Reads.of_head | apply Reads.tail)) (by omega) (by omega)) rfl ?_
          refine Ops.quiet (Qt.cast (Qt.load_map ([] : Bs) rfl (tk rfl) rfl (by repeat (first | assumption | exact Reads.of_head | apply Reads.tail)) (by omega)) (congrArg str hp.symm)) rfl ?_
          refine Ops.quiet (Qt.move rfl) rfl ?_
          refine Ops.quiet (Qt.sidx rfl rfl (tk rfl) (by omega) (by omega)) rfl ?_
          refine Ops.eff (Ef.call (fok fab_all rfl Tryz.func87 rfl) rfl (by rw [hg]; exact spec_rletter w0 p[k] _)) rfl ?_
          rintro _ c0 ⟨rfl, h0⟩; subst c0
          refine Ops.quiet (Qt.not rfl) rfl ?_
          refine Ops.quiet (Qt.move rfl) rfl ?_
          refine Ops.guard rfl rfl rfl rfl (fun g39 => ?_) (fun g39 => ?_)
          · have g39' := g39
            try simp only [decide_eq_true_eq, decide_eq_false_iff_not, beq_iff_eq, beq_eq_false_iff_ne, bne_iff_ne, ne_eq, Bool.not_eq_true', Bool.not_eq_false', bne_eq_false_iff_eq, Bool.not_eq_eq_eq_not, Bool.not_true, Bool.not_false] at g39'
            refine Ops.quiet (Qt.move rfl) rfl ?_
            refine Ops.guard_yes rfl rfl rfl rfl g39 ?_
            refine Ops.quiet (Qt.move rfl) rfl ?_
            refine Ops.guard_yes rfl rfl rfl rfl g39 ?_
            refine Ops.quiet (Qt.indexAddr rfl rfl (tk rfl) (tk rfl) rfl (by repeat (first | assumption | exact Reads.of_head | apply Reads.tail)) (by omega) (by omega)) rfl ?_
            refine Ops.guard_yes rfl rfl rfl rfl g39 ?_
            refine Ops.quiet (Qt.cast (Qt.load_map ([] : Bs) rfl (tk rfl) rfl (by repeat (first | assumption | exact Reads.of_head | apply Reads.tail)) (by omega)) (congrArg str hp.symm)) rfl ?_
            refine Ops.guard_yes rfl rfl rfl rfl g39 ?_
            refine Ops.quiet (Qt.move rfl) rfl ?_
            refine Ops.guard_yes rfl rfl rfl rfl g39 ?_
            refine Ops.quiet (Qt.sidx rfl rfl (tk rfl) (by omega) (by omega)) rfl ?_
            refine Ops.guard_yes rfl rfl rfl rfl g39 ?_
            refine Ops.eff (Ef.call (fok fab_all rfl Tryz.func35 rfl) rfl (by rw [hg]; exact spec_rin w0 atoms p[k] _ (by decide))) rfl ?_
            rintro _ c0 ⟨rfl, h0⟩; subst c0
            refine Ops.guard_yes rfl rfl rfl rfl g39 ?_
            refine Ops.quiet (Qt.not rfl) rfl ?_
            refine Ops.quiet (Qt.pick_t rfl rfl g39) rfl ?_
            refine Ops.nil ?_
            refine H.then_normal ?_
            refine H.cond rfl (fun h48 => ?_) (fun h48 => ?_)
            · try simp only [decide_eq_true_eq, decide_eq_false_iff_not, beq_iff_eq, beq_eq_false_iff_ne, bne_iff_ne, ne_eq, Bool.not_eq_true', Bool.not_eq_false', bne_eq_false_iff_eq, Bool.not_eq_eq_eq_not, Bool.not_true, Bool.not_false] at h48
              refine H.seq ?_
              refine H.region ?_
              refine Ops.quiet (Qt.assign rfl) rfl ?_
              refine Ops.nil ?_
              refine H.then_normal ?_
              refine H.ret ?_
              refine H.blk_ret ?_
              refine H.then_ret ?_
              refine H.then_ret ?_
              refine H.blk_ret ?_
              refine H.blk_ret ?_
              refine H.then_ret ?_
              refine H.then_ret ?_
              refine H.blk_ret ?_
              refine H.then_ret ?_
              refine (H.ends_to (cs' := cs) rfl (.cons (.tmp rfl) .nil) (fun w hw => ?_) ?_)
              · exact hw.tail
              · refine ⟨congrArg bol ?_, rfl⟩
                rw [hno (by rw [hatom, g39', h48]; rfl)]
            · try simp only [decide_eq_true_eq, decide_eq_false_iff_not, beq_iff_eq, beq_eq_false_iff_ne, bne_iff_ne, ne_eq, Bool.not_eq_true', Bool.not_eq_false', bne_eq_false_iff_eq, Bool.not_eq_eq_eq_not, Bool.not_true, Bool.not_false] at h48
              refine H.skip ?_
              refine H.blk_normal ?_
              refine H.then_normal ?_
              refine H.region ?_
              refine Ops.quiet (Qt.move rfl) rfl ?_
              refine Ops.quiet (Qt.addk rfl rfl (by first | exact IntWalk.i64_in _ (by omega) | exact IntWalk.u8_in _ (by omega) | exact IntWalk.u64_in _ (by omega) | exact IntWalk.u32_in _ (by omega) | exact IntWalk.u16_in _ (by omega))) rfl ?_
              refine Ops.quiet (Qt.assign rfl) rfl ?_
              refine Ops.nil ?_
              refine H.then_normal ?_
              refine H.round (k + 1) ⟨by omega, by rw [hau, hal, hatom, g39', h48]; rfl⟩ (by omega) (by repeat (first | exact trivial | refine ⟨rfl, ?_⟩)) (fun w hw => hw)
          · have g39' := g39
            try simp only [decide_eq_true_eq, decide_eq_false_iff_not, beq_iff_eq, beq_eq_false_iff_ne, bne_iff_ne, ne_eq, Bool.not_eq_true', Bool.not_eq_false', bne_eq_false_iff_eq, Bool.not_eq_eq_eq_not, Bool.not_true, Bool.not_false] at g39'
            refine Ops.guard_no rfl rfl rfl rfl g39 ?_
            refine Ops.guard_no rfl rfl rfl rfl g39 ?_
            refine Ops.guard_no rfl rfl rfl rfl g39 ?_
            refine Ops.guard_no rfl rfl rfl rfl g39 ?_
            refine Ops.guard_no rfl rfl rfl rfl g39 ?_
            refine Ops.guard_no rfl rfl rfl rfl g39 ?_
            refine Ops.guard_no rfl rfl rfl rfl g39 ?_
            refine Ops.quiet (Qt.pick_f rfl rfl g39) rfl ?_
            refine Ops.nil ?_
            refine H.then_normal ?_
            refine H.cond_false rfl (by rfl) ?_
            refine H.skip ?_
            refine H.blk_normal ?_
            refine H.then_normal ?_
            refine H.region ?_
            refine Ops.quiet (Qt.move rfl) rfl ?_
            refine Ops.quiet (Qt.addk rfl rfl (by first | exact IntWalk.i64_in _ (by omega) | exact IntWalk.u8_in _ (by omega) | exact IntWalk.u64_in _ (by omega) | exact IntWalk.u32_in _ (by omega) | exact IntWalk.u16_in _ (by omega))) rfl ?_
            refine Ops.quiet (Qt.assign rfl) rfl ?_
            refine Ops.nil ?_
            refine H.then_normal ?_
            refine H.round (k + 1) ⟨by omega, by rw [hau, hal, hatom, g39']; rfl⟩ (by omega) (by repeat (first | exact trivial | refine ⟨rfl, ?_⟩)) (fun w hw => hw)
        · try simp only [decide_eq_true_eq, decide_eq_false_iff_not, beq_iff_eq, beq_eq_false_iff_ne, bne_iff_ne, ne_eq, Bool.not_eq_true', Bool.not_eq_false', bne_eq_false_iff_eq, Bool.not_eq_eq_eq_not, Bool.not_true, Bool.not_false] at h28
          refine H.exit ?_
          refine H.then_exit ?_
          refine H.then_exit ?_
          refine H.blk_hit ?_
          refine H.blk_normal ?_
          refine H.then_normal ?_
          refine H.region ?_
          refine Ops.quiet (Qt.move rfl) rfl ?_
          refine Ops.quiet (Qt.addk rfl rfl (by first | exact IntWalk.i64_in _ (by omega) | exact IntWalk.u8_in _ (by omega) | exact IntWalk.u64_in _ (by omega) | exact IntWalk.u32_in _ (by omega) | exact IntWalk.u16_in _ (by omega))) rfl ?_
          refine Ops.quiet (Qt.assign rfl) rfl ?_
          refine Ops.nil ?_
          refine H.then_normal ?_
          have e1 : p.take k = p := List.take_of_length_le (by omega)
          rw [e1] at hal
          have e2 : allB atomB p = true := by
            rw [allB, hal]
            simpa using h21
          refine H.round (i + 1) ⟨by omega, by rw [hsu, ha, e2]; rfl⟩ (by omega) (by repeat (first | exact trivial | refine ⟨rfl, ?_⟩)) (fun w hw => hw)
    · try simp only [decide_eq_true_eq, decide_eq_false_iff_not, beq_iff_eq, beq_eq_false_iff_ne, bne_iff_ne, ne_eq, Bool.not_eq_true', Bool.not_eq_false', bne_eq_false_iff_eq, Bool.not_eq_eq_eq_not, Bool.not_true, Bool.not_false] at h14
      refine H.exit ?_
      refine H.then_exit ?_
      refine H.then_exit ?_
      refine H.blk_hit ?_
      refine H.then_normal ?_
      refine H.seq ?_
      refine H.region ?_
      refine Ops.quiet (Qt.assign rfl) rfl ?_
      refine Ops.nil ?_
      refine H.then_normal ?_
      refine H.ret ?_
      have e1 : L.take i = L := List.take_of_length_le (by omega)
      rw [e1, hL] at ha
      refine (H.ends_to (cs' := cs) rfl (.cons (.tmp rfl) .nil) (fun w hw => ?_) ?_)
      · exact hw.tail
      · refine ⟨congrArg bol ?_, rfl⟩
        rw [localB, ha, decide_eq_true (by omega)]
        rfl
theorem spec_rdomain (w0 : World) (s : Bs) (hl : s.length ≤ 9223372036854775806) (cs : List SProp) : Spec Tryz.prog w0 74 [str s] cs (fun v cs' => v = bol (domainB s) ∧ cs' = cs) := by
  refine Spec.of_body Tryz.func74 rfl Tryz.ntmps74 rfl ?_
  refine H.seq ?_
  refine H.region ?_
  refine Ops.quiet (Qt.assign rfl) rfl ?_
  refine Ops.nil ?_
  refine H.then_normal ?_
  refine H.seq ?_
  refine H.seq ?_
  refine H.region ?_
  refine Ops.quiet (Qt.move rfl) rfl ?_
  refine Ops.quiet (Qt.len_str rfl (tk rfl)) rfl ?_
  refine Ops.quiet (Qt.gtr rfl rfl) rfl ?_
  refine Ops.nil ?_
  refine H.then_normal ?_
  refine H.cond rfl (fun h9 => ?_) (fun h9 => ?_)
  · try simp only [decide_eq_true_eq, decide_eq_false_iff_not, beq_iff_eq, beq_eq_false_iff_ne, bne_iff_ne, ne_eq, Bool.not_eq_true', Bool.not_eq_false', bne_eq_false_iff_eq, Bool.not_eq_eq_eq_not, Bool.not_true, Bool.not_false] at h9
    refine H.seq ?_
    refine H.region ?_
    refine Ops.quiet (Qt.assign rfl) rfl ?_
    refine Ops.nil ?_
    refine H.then_normal ?_
    refine H.ret ?_
    refine H.then_ret ?_
    refine (H.ends rfl (.cons (.tmp rfl) .nil) ?_)
    refine ⟨congrArg bol ?_, rfl⟩
    rw [domainB, decide_eq_false (by omega)]
    rfl
  · try simp only [decide_eq_true_eq, decide_eq_false_iff_not, beq_iff_eq, beq_eq_false_iff_ne, bne_iff_ne, ne_eq, Bool.not_eq_true', Bool.not_eq_false', bne_eq_false_iff_eq, Bool.not_eq_eq_eq_not, Bool.not_true, Bool.not_false] at h9
    refine H.skip ?_
    refine H.then_normal ?_
    refine H.seq ?_
    refine H.region ?_
    refine Ops.quiet (Qt.move rfl) rfl ?_
    refine Ops.eff (Ef.call (fok fab_all rfl Tryz.func86 rfl) rfl (spec_rcut w0 s 46 (by omega) _)) rfl ?_
    rintro _ _ ⟨A11, q11, rfl, rfl⟩
    refine Ops.quiet (Qt.assign rfl) rfl ?_
    refine Ops.nil ?_
    refine H.then_normal ?_
    refine H.seq ?_
    refine H.seq ?_
    refine H.region ?_
    refine Ops.quiet (Qt.assign rfl) rfl ?_
    refine Ops.nil ?_
    refine H.then_normal ?_
    refine H.block ?_
    obtain ⟨L, hL⟩ : ∃ L, L = splitC 46 s := ⟨_, rfl⟩
    have hLl : L.length ≤ 256 := by rw [hL]; have := splitC_count 46 s; omega
    have hLm : ∀ a ∈ L, a.length ≤ 255 := by
      intro a ha
      have := splitC_len 46 s a (hL ▸ ha)
      omega
    rw [← hL]
    refine H.loop (X := Nat) (fun i => [(3, .slice A11 L.length q11), (4, num i)]) (fun i => osl 9 A11 L.length q11 (L.map str) :: cs) (fun i => i ≤ L.length ∧ (L.take i).any (fun a => !(labelB a)) = false) (fun i => L.length - i) 0 ⟨Nat.zero_le _, rfl⟩ (by repeat (first | exact trivial | refine ⟨rfl, ?_⟩)) (fun w hw => hw) ?_
    intro i ⟨hi, ha⟩
    refine H.seq ?_
    refine H.seq ?_
    refine H.region ?_
    refine Ops.quiet (Qt.move rfl) rfl ?_
    refine Ops.quiet (Qt.move rfl) rfl ?_
    refine Ops.quiet (Qt.len_sl (ats := #[]) rfl (tk rfl)) rfl ?_
    refine Ops.quiet (Qt.lss rfl rfl) rfl ?_
    refine Ops.nil ?_
    refine H.then_normal ?_
    refine H.cond rfl (fun h15 => ?_) (fun h15 => ?_)
    · try simp only [decide_eq_true_eq, decide_eq_false_iff_not, beq_iff_eq, beq_eq_false_iff_ne, bne_iff_ne, ne_eq, Bool.not_eq_true', Bool.not_eq_false', bne_eq_false_iff_eq, Bool.not_eq_eq_eq_not, Bool.not_true, Bool.not_false] at h15
      refine H.skip ?_
      refine H.then_normal ?_
      refine H.seq ?_
      refine H.block ?_
      refine H.seq ?_
      have hi2 : i < L.length := by omega
      obtain ⟨p, hp⟩ : ∃ p, p = L.getD (i : Int).toNat [] := ⟨_, rfl⟩
      have hp2 : p = L[i] := by rw [hp]; show L.getD i [] = _; simp [List.getD_eq_getElem?_getD, hi2]
      have hpl : p.length ≤ 255 := hLm p (hp2 ▸ List.getElem_mem hi2)
      have hsu := any_take_succ (fun a => !(labelB a)) L i hi2
      have hbad : labelB p = false → domainB s = false := fun h => by
        have : (splitC 46 s).any (fun a => !(labelB a)) = true := List.any_eq_true.2 ⟨p, by rw [← hL, hp2]; exact List.getElem_mem hi2, by rw [h]; rfl⟩
        rw [domainB, this]; simp
      rw [← hp2] at hsu
      refine H.region ?_
      refine Ops.quiet (Qt.move rfl) rfl ?_
      refine Ops.quiet (Qt.move rfl) rfl ?_
      refine Ops.quiet (Qt.indexAddr rfl rfl (tk rfl) (tk rfl) rfl (by repeat (first | assumption | exact Reads.of_head | apply Reads.tail)) (by omega) (by omega)) rfl ?_
      refine Ops.quiet (Qt.cast (Qt.load_map ([] : Bs) rfl (tk rfl) rfl (by repeat (first | assumption | exact Reads.of_head | apply Reads.tail)) (by omega)) (congrArg str hp.symm)) rfl ?_
      refine Ops.quiet (Qt.assign rfl) rfl ?_
      refine Ops.nil ?_
      refine H.then_normal ?_
      refine H.seq ?_
      refine H.seq ?_
      refine H.region ?_
      refine Ops.quiet (Qt.move rfl) rfl ?_
      refine Ops.quiet (Qt.seq rfl rfl) rfl ?_
      refine Ops.quiet (Qt.move rfl) rfl ?_
      refine Ops.guard rfl rfl rfl rfl (fun g24 => ?_) (fun g24 => ?_)
      · have g24' := g24
        try simp only [decide_eq_true_eq, decide_eq_false_iff_not, beq_iff_eq, beq_eq_false_iff_ne, bne_iff_ne, ne_eq, Bool.not_eq_true', Bool.not_eq_false', bne_eq_false_iff_eq, Bool.not_eq_eq_eq_not, Bool.not_true, Bool.not_false] at g24'
        have hp0 : 0 < p.length := by
          cases p with
          | nil => simp at g24'
          | cons x p => simp
        refine Ops.quiet (Qt.move rfl) rfl ?_
        refine Ops.guard_yes rfl rfl rfl rfl g24 ?_
        refine Ops.quiet (Qt.len_str rfl (tk rfl)) rfl ?_
        refine Ops.guard_yes rfl rfl rfl rfl g24 ?_
        refine Ops.quiet (Qt.gtr rfl rfl) rfl ?_
        refine Ops.quiet (Qt.pick_f rfl rfl g24) rfl ?_
        refine Ops.quiet (Qt.move rfl) rfl ?_
        refine Ops.guard rfl rfl rfl rfl (fun g29 => ?_) (fun g29 => ?_)
        · have g29' := g29
          try simp only [decide_eq_true_eq, decide_eq_false_iff_not, beq_iff_eq, beq_eq_false_iff_ne, bne_iff_ne, ne_eq, Bool.not_eq_true', Bool.not_eq_false', bne_eq_false_iff_eq, Bool.not_eq_eq_eq_not, Bool.not_true, Bool.not_false] at g29'
          refine Ops.quiet (Qt.move rfl) rfl ?_
          refine Ops.guard_yes rfl rfl rfl rfl g29 ?_
          refine Ops.quiet (Qt.sidx rfl rfl (tk rfl) (by omega) (by omega)) rfl ?_
          refine Ops.guard_yes rfl rfl rfl rfl g29 ?_
          refine Ops.quiet (Qt.eql rfl rfl) rfl ?_
          refine Ops.quiet (Qt.pick_f rfl rfl g29) rfl ?_
          refine Ops.quiet (Qt.move rfl) rfl ?_
          refine Ops.guard rfl rfl rfl rfl (fun g34 => ?_) (fun g34 => ?_)
          · have g34' := g34
            try simp only [decide_eq_true_eq, decide_eq_false_iff_not, beq_iff_eq, beq_eq_false_iff_ne, bne_iff_ne, ne_eq, Bool.not_eq_true', Bool.not_eq_false', bne_eq_false_iff_eq, Bool.not_eq_eq_eq_not, Bool.not_true, Bool.not_false] at g34'
            refine Ops.quiet (Qt.move rfl) rfl ?_
            refine Ops.guard_yes rfl rfl rfl rfl g34 ?_
            refine Ops.quiet (Qt.move rfl) rfl ?_
            refine Ops.guard_yes rfl rfl rfl rfl g34 ?_
            refine Ops.quiet (Qt.len_str rfl (tk rfl)) rfl ?_
            refine Ops.guard_yes rfl rfl rfl rfl g34 ?_
            refine Ops.quiet (Qt.subk rfl rfl (by first | exact IntWalk.i64_in _ (by omega) | exact IntWalk.u8_in _ (by omega) | exact IntWalk.u64_in _ (by omega) | exact IntWalk.u32_in _ (by omega) | exact IntWalk.u16_in _ (by omega))) rfl ?_
            refine Ops.guard_yes rfl rfl rfl rfl g34 ?_
            refine Ops.quiet (Qt.sidx rfl rfl (tk rfl) (by omega) (by omega)) rfl ?_
            refine Ops.guard_yes rfl rfl rfl rfl g34 ?_
            refine Ops.quiet (Qt.eql rfl rfl) rfl ?_
            refine Ops.quiet (Qt.pick_f rfl rfl g34) rfl ?_
            refine Ops.nil ?_
            refine H.then_normal ?_
            refine H.cond rfl (fun h41 => ?_) (fun h41 => ?_)
            · try simp only [decide_eq_true_eq, decide_eq_false_iff_not, beq_iff_eq, beq_eq_false_iff_ne, bne_iff_ne, ne_eq, Bool.not_eq_true', Bool.not_eq_false', bne_eq_false_iff_eq, Bool.not_eq_eq_eq_not, Bool.not_true, Bool.not_false] at h41
              refine H.seq ?_
              refine H.region ?_
              refine Ops.quiet (Qt.assign rfl) rfl ?_
              refine Ops.nil ?_
              refine H.then_normal ?_
              refine H.ret ?_
              refine H.then_ret ?_
              refine H.blk_ret ?_
              refine H.then_ret ?_
              refine H.then_ret ?_
              refine H.blk_ret ?_
              refine H.then_ret ?_
              have hb : labelB p = false := by
                have e0 : ((p.length : Int) - 1).toNat = p.length - 1 := by omega
                rw [e0] at h41
                have e : (((p.getD (p.length - 1) 0).toNat : Int) == 45) = true := by simpa using h41
                rw [labelB, e]; simp
              refine (H.ends_to (cs' := cs) rfl (.cons (.tmp rfl) .nil) (fun w hw => ?_) ?_)
              · exact hw.tail
              · exact ⟨by rw [hbad hb]; rfl, rfl⟩
            · try simp only [decide_eq_true_eq, decide_eq_false_iff_not, beq_iff_eq, beq_eq_false_iff_ne, bne_iff_ne, ne_eq, Bool.not_eq_true', Bool.not_eq_false', bne_eq_false_iff_eq, Bool.not_eq_eq_eq_not, Bool.not_true, Bool.not_false] at h41
              refine H.skip ?_
              refine H.then_normal ?_
              refine H.seq ?_
              have hp0 : 0 < p.length := by
                cases p with
                | nil => simp at *
                | cons x p => simp
              refine H.region ?_
              refine Ops.quiet (Qt.assign rfl) rfl ?_
              refine Ops.nil ?_
              refine H.then_normal ?_
              refine H.block ?_
              refine H.loop (X := Nat) (fun k => [(3, .slice A11 L.length q11), (4, num i), (5, str p), (6, num k)]) (fun k => osl 9 A11 L.length q11 (L.map str) :: cs) (fun k => k ≤ p.length ∧ (p.take k).all innerB = true) (fun k => p.length - k) 0 ⟨Nat.zero_le _, rfl⟩ (by repeat (first | exact trivial | refine ⟨rfl, ?_⟩)) (fun w hw => hw) ?_
              intro k ⟨hk, hal⟩
              refine H.seq ?_
              refine H.seq ?_
              refine H.region ?_
              refine Ops.quiet (Qt.move rfl) rfl ?_
              refine Ops.quiet (Qt.move rfl) rfl ?_
              refine Ops.quiet (Qt.len_str rfl (tk rfl)) rfl ?_
              refine Ops.quiet (Qt.lss rfl rfl) rfl ?_
              refine Ops.nil ?_
              refine H.then_normal ?_
              refine H.cond rfl (fun h45 => ?_) (fun h45 => ?_)
              · try simp only [decide_eq_true_eq, decide_eq_false_iff_not, beq_iff_eq, beq_eq_false_iff_ne, bne_iff_ne, ne_eq, Bool.not_eq_true', Bool.not_eq_false', bne_eq_false_iff_eq, Bool.not_eq_eq_eq_not, Bool.not_true, Bool.not_false] at h45
                refine H.skip ?_
                refine H.then_normal ?_
                refine H.seq ?_
                refine H.block ?_
                refine H.seq ?_
                have hk2 : k < p.length := by omega
                have hg : p.getD (k : Int).toNat 0 = p[k] := by show p.getD k 0 = _; simp [List.getD_eq_getElem?_getD, hk2]
                have hau : (p.take (k + 1)).all innerB = ((p.take k).all innerB && innerB p[k]) := by rw [List.take_succ_eq_append_getElem hk2, List.all_append]; simp
                have hno : innerB p[k] = false → domainB s = false := fun h => hbad (by
                  have : p.all innerB = false := List.all_eq_false.2 ⟨_, List.getElem_mem hk2, by rw [h]; simp⟩
                  rw [labelB, allB, this]; simp)
                refine H.region ?_
                refine Ops.quiet (Qt.move rfl) rfl ?_
                refine Ops.quiet (Qt.move rfl) rfl ?_
                refine Ops.quiet (Qt.sidx rfl rfl (tk rfl) (by omega) (by omega)) rfl ?_
                refine Ops.eff (Ef.call (fok fab_all rfl Tryz.func87 rfl) rfl (by rw [hg]; exact spec_rletter w0 p[k] _)) rfl ?_
                rintro _ c0 ⟨rfl, h0⟩; subst c0
                refine Ops.quiet (Qt.not rfl) rfl ?_
                refine Ops.quiet (Qt.move rfl) rfl ?_
                refine Ops.guard rfl rfl rfl rfl (fun g53 => ?_) (fun g53 => ?_)
                · have g53' := g53
                  try simp only [decide_eq_true_eq, decide_eq_false_iff_not, beq_iff_eq, beq_eq_false_iff_ne, bne_iff_ne, ne_eq, Bool.not_eq_true', Bool.not_eq_false', bne_eq_false_iff_eq, Bool.not_eq_eq_eq_not, Bool.not_true, Bool.not_false] at g53'
                  refine Ops.quiet (Qt.move rfl) rfl ?_
                  refine Ops.guard_yes rfl rfl rfl rfl g53 ?_
                  refine Ops.quiet (Qt.move rfl) rfl ?_
                  refine Ops.guard_yes rfl rfl rfl rfl g53 ?_
                  refine Ops.quiet (Qt.sidx rfl rfl (tk rfl) (by omega) (by omega)) rfl ?_
                  refine Ops.guard_yes rfl rfl rfl rfl g53 ?_
                  refine Ops.quiet (Qt.neq rfl rfl) rfl ?_
                  refine Ops.quiet (Qt.pick_t rfl rfl g53) rfl ?_
                  refine Ops.nil ?_
                  refine H.then_normal ?_
                  refine H.cond rfl (fun h58 => ?_) (fun h58 => ?_)
                  · try simp only [decide_eq_true_eq, decide_eq_false_iff_not, beq_iff_eq, beq_eq_false_iff_ne, bne_iff_ne, ne_eq, Bool.not_eq_true', Bool.not_eq_false', bne_eq_false_iff_eq, Bool.not_eq_eq_eq_not, Bool.not_true, Bool.not_false] at h58
                    refine H.seq ?_
                    refine H.region ?_
                    refine Ops.quiet (Qt.assign rfl) rfl ?_
                    refine Ops.nil ?_
                    refine H.then_normal ?_
                    refine H.ret ?_
                    refine H.blk_ret ?_
                    refine H.then_ret ?_
                    refine H.then_ret ?_
                    refine H.blk_ret ?_
                    refine H.blk_ret ?_
                    refine H.then_ret ?_
                    refine H.then_ret ?_
                    refine H.blk_ret ?_
                    refine H.then_ret ?_
                    have hb : innerB p[k] = false := by
                      rw [hg] at h58
                      simp [innerB, g53', h58]
                    refine (H.ends_to (cs' := cs) rfl (.cons (.tmp rfl) .nil) (fun w hw => ?_) ?_)
                    · exact hw.tail
                    · exact ⟨by rw [hno hb]; rfl, rfl⟩
                  · try simp only [decide_eq_true_eq, decide_eq_false_iff_not, beq_iff_eq, beq_eq_false_iff_ne, bne_iff_ne, ne_eq, Bool.not_eq_true', Bool.not_eq_false', bne_eq_false_iff_eq, Bool.not_eq_eq_eq_not, Bool.not_true, Bool.not_false] at h58
                    refine H.skip ?_
                    refine H.blk_normal ?_
                    refine H.then_normal ?_
                    refine H.region ?_
                    refine Ops.quiet (Qt.move rfl) rfl ?_
                    refine Ops.quiet (Qt.addk rfl rfl (by first | exact IntWalk.i64_in _ (by omega) | exact IntWalk.u8_in _ (by omega) | exact IntWalk.u64_in _ (by omega) | exact IntWalk.u32_in _ (by omega) | exact IntWalk.u16_in _ (by omega))) rfl ?_
                    refine Ops.quiet (Qt.assign rfl) rfl ?_
                    refine Ops.nil ?_
                    refine H.then_normal ?_
                    have hb : innerB p[k] = true := by
                      rw [hg] at h58
                      simp [innerB, h58]
                    refine H.round (k + 1) ⟨by omega, by rw [hau, hal, hb]; rfl⟩ (by omega) (by repeat (first | exact trivial | refine ⟨rfl, ?_⟩)) (fun w hw => hw)
                · have g53' := g53
                  try simp only [decide_eq_true_eq, decide_eq_false_iff_not, beq_iff_eq, beq_eq_false_iff_ne, bne_iff_ne, ne_eq, Bool.not_eq_true', Bool.not_eq_false', bne_eq_false_iff_eq, Bool.not_eq_eq_eq_not, Bool.not_true, Bool.not_false] at g53'
                  refine Ops.guard_no rfl rfl rfl rfl g53 ?_
                  refine Ops.guard_no rfl rfl rfl rfl g53 ?_
                  refine Ops.guard_no rfl rfl rfl rfl g53 ?_
                  refine Ops.quiet (Qt.pick_f rfl rfl g53) rfl ?_
                  refine Ops.nil ?_
                  refine H.then_normal ?_
                  refine H.cond_false rfl (by rfl) ?_
                  refine H.skip ?_
                  refine H.blk_normal ?_
                  refine H.then_normal ?_
                  refine H.region ?_
                  refine Ops.quiet (Qt.move rfl) rfl ?_
                  refine Ops.quiet (Qt.addk rfl rfl (by first | exact IntWalk.i64_in _ (by omega) | exact IntWalk.u8_in _ (by omega) | exact IntWalk.u64_in _ (by omega) | exact IntWalk.u32_in _ (by omega) | exact IntWalk.u16_in _ (by omega))) rfl ?_
                  refine Ops.quiet (Qt.assign rfl) rfl ?_
                  refine Ops.nil ?_
                  refine H.then_normal ?_
                  have hb : innerB p[k] = true := by simp [innerB, g53']
                  refine H.round (k + 1) ⟨by omega, by rw [hau, hal, hb]; rfl⟩ (by omega) (by repeat (first | exact trivial | refine ⟨rfl, ?_⟩)) (fun w hw => hw)
              · try simp only [decide_eq_true_eq, decide_eq_false_iff_not, beq_iff_eq, beq_eq_false_iff_ne, bne_iff_ne, ne_eq, Bool.not_eq_true', Bool.not_eq_false', bne_eq_false_iff_eq, Bool.not_eq_eq_eq_not, Bool.not_true, Bool.not_false] at h45
                refine H.exit ?_
                refine H.then_exit ?_
                refine H.then_exit ?_
                refine H.blk_hit ?_
                refine H.blk_normal ?_
                refine H.then_normal ?_
                refine H.region ?_
                refine Ops.quiet (Qt.move rfl) rfl ?_
                refine Ops.quiet (Qt.addk rfl rfl (by first | exact IntWalk.i64_in _ (by omega) | exact IntWalk.u8_in _ (by omega) | exact IntWalk.u64_in _ (by omega) | exact IntWalk.u32_in _ (by omega) | exact IntWalk.u16_in _ (by omega))) rfl ?_
                refine Ops.quiet (Qt.assign rfl) rfl ?_
                refine Ops.nil ?_
                refine H.then_normal ?_
                have e1 : p.take k = p := List.take_of_length_le (by omega)
                rw [e1] at hal
                have e2 : labelB p = true := by
                  have e0 : ((p.length : Int) - 1).toNat = p.length - 1 := by omega
                  rw [e0] at h41
                  have a1 : (((p.getD 0 0).toNat : Int) == 45) = false := g34
                  have a2 : (((p.getD (p.length - 1) 0).toNat : Int) == 45) = false := by simpa using h41
                  have a3 : allB innerB p = true := by rw [allB, hal]; simpa using g24'
                  rw [labelB, a1, a2, a3, decide_eq_true (by omega)]
                  rfl
                refine H.round (i + 1) ⟨by omega, by rw [hsu, ha, e2]; rfl⟩ (by omega) (by repeat (first | exact trivial | refine ⟨rfl, ?_⟩)) (fun w hw => hw)
          · have g34' := g34
            try simp only [decide_eq_true_eq, decide_eq_false_iff_not, beq_iff_eq, beq_eq_false_iff_ne, bne_iff_ne, ne_eq, Bool.not_eq_true', Bool.not_eq_false', bne_eq_false_iff_eq, Bool.not_eq_eq_eq_not, Bool.not_true, Bool.not_false] at g34'
            refine Ops.guard_no rfl rfl rfl rfl g34 ?_
            refine Ops.guard_no rfl rfl rfl rfl g34 ?_
            refine Ops.guard_no rfl rfl rfl rfl g34 ?_
            refine Ops.guard_no rfl rfl rfl rfl g34 ?_
            refine Ops.guard_no rfl rfl rfl rfl g34 ?_
            refine Ops.quiet (Qt.pick_t rfl rfl g34) rfl ?_
            refine Ops.nil ?_
            refine H.then_normal ?_
            refine H.cond_true rfl (by rfl) ?_
            refine H.seq ?_
            refine H.region ?_
            refine Ops.quiet (Qt.assign rfl) rfl ?_
            refine Ops.nil ?_
            refine H.then_normal ?_
            refine H.ret ?_
            refine H.then_ret ?_
            refine H.blk_ret ?_
            refine H.then_ret ?_
            refine H.then_ret ?_
            refine H.blk_ret ?_
            refine H.then_ret ?_
            have hb : labelB p = false := by
              have e : (((p.getD 0 0).toNat : Int) == 45) = true := by simpa using g34'
              rw [labelB, e]; simp
            refine (H.ends_to (cs' := cs) rfl (.cons (.tmp rfl) .nil) (fun w hw => ?_) ?_)
            · exact hw.tail
            · exact ⟨by rw [hbad hb]; rfl, rfl⟩
        · have g29' := g29
          try simp only [decide_eq_true_eq, decide_eq_false_iff_not, beq_iff_eq, beq_eq_false_iff_ne, bne_iff_ne, ne_eq, Bool.not_eq_true', Bool.not_eq_false', bne_eq_false_iff_eq, Bool.not_eq_eq_eq_not, Bool.not_true, Bool.not_false] at g29'
          refine Ops.guard_no rfl rfl rfl rfl g29 ?_
          refine Ops.guard_no rfl rfl rfl rfl g29 ?_
          refine Ops.quiet (Qt.pick_t rfl rfl g29) rfl ?_
          refine Ops.quiet (Qt.move rfl) rfl ?_
          refine Ops.guard rfl rfl rfl rfl (fun g34 => ?_) (fun g34 => ?_)
          · have g34' := g34
            try simp only [decide_eq_true_eq, decide_eq_false_iff_not, beq_iff_eq, beq_eq_false_iff_ne, bne_iff_ne, ne_eq, Bool.not_eq_true', Bool.not_eq_false', bne_eq_false_iff_eq, Bool.not_eq_eq_eq_not, Bool.not_true, Bool.not_false] at g34'
            exact Bool.noConfusion g34
          · have g34' := g34
            try simp only [decide_eq_true_eq, decide_eq_false_iff_not, beq_iff_eq, beq_eq_false_iff_ne, bne_iff_ne, ne_eq, Bool.not_eq_true', Bool.not_eq_false', bne_eq_false_iff_eq, Bool.not_eq_eq_eq_not, Bool.not_true, Bool.not_false] at g34'
            refine Ops.guard_no rfl rfl rfl rfl g34 ?_
            refine Ops.guard_no rfl rfl rfl rfl g34 ?_
            refine Ops.guard_no rfl rfl rfl rfl g34 ?_
            refine Ops.guard_no rfl rfl rfl rfl g34 ?_
            refine Ops.guard_no rfl rfl rfl rfl g34 ?_
            refine Ops.quiet (Qt.pick_t rfl rfl g34) rfl ?_
            refine Ops.nil ?_
            refine H.then_normal ?_
            refine H.cond_true rfl (by rfl) ?_
            refine H.seq ?_
            refine H.region ?_
            refine Ops.quiet (Qt.assign rfl) rfl ?_
            refine Ops.nil ?_
            refine H.then_normal ?_
            refine H.ret ?_
            refine H.then_ret ?_
            refine H.blk_ret ?_
            refine H.then_ret ?_
            refine H.then_ret ?_
            refine H.blk_ret ?_
            refine H.then_ret ?_
            have hb : labelB p = false := by rw [labelB, decide_eq_false (by omega)]; rfl
            refine (H.ends_to (cs' := cs) rfl (.cons (.tmp rfl) .nil) (fun w hw => ?_) ?_)
            · exact hw.tail
            · exact ⟨by rw [hbad hb]; rfl, rfl⟩
      · have g24' := g24
        try simp only [decide_eq_true_eq, decide_eq_false_iff_not, beq_iff_eq, beq_eq_false_iff_ne, bne_iff_ne, ne_eq, Bool.not_eq_true', Bool.not_eq_false', bne_eq_false_iff_eq, Bool.not_eq_eq_eq_not, Bool.not_true, Bool.not_false] at g24'
        refine Ops.guard_no rfl rfl rfl rfl g24 ?_
        refine Ops.guard_no rfl rfl rfl rfl g24 ?_
        refine Ops.quiet (Qt.pick_t rfl rfl g24) rfl ?_
        refine Ops.quiet (Qt.move rfl) rfl ?_
        refine Ops.guard rfl rfl rfl rfl (fun g29 => ?_) (fun g29 => ?_)
        · have g29' := g29
          try simp only [decide_eq_true_eq, decide_eq_false_iff_not, beq_iff_eq, beq_eq_false_iff_ne, bne_iff_ne, ne_eq, Bool.not_eq_true', Bool.not_eq_false', bne_eq_false_iff_eq, Bool.not_eq_eq_eq_not, Bool.not_true, Bool.not_false] at g29'
          exact Bool.noConfusion g29
        · have g29' := g29
          try simp only [decide_eq_true_eq, decide_eq_false_iff_not, beq_iff_eq, beq_eq_false_iff_ne, bne_iff_ne, ne_eq, Bool.not_eq_true', Bool.not_eq_false', bne_eq_false_iff_eq, Bool.not_eq_eq_eq_not, Bool.not_true, Bool.not_false] at g29'
          refine Ops.guard_no rfl rfl rfl rfl g29 ?_
          refine Ops.guard_no rfl rfl rfl rfl g29 ?_
          refine Ops.quiet (Qt.pick_t rfl rfl g29) rfl ?_
          refine Ops.quiet (Qt.move rfl) rfl ?_
          refine Ops.guard rfl rfl rfl rfl (fun g34 => ?_) (fun g34 => ?_)
          · have g34' := g34
            try simp only [decide_eq_true_eq, decide_eq_false_iff_not, beq_iff_eq, beq_eq_false_iff_ne, bne_iff_ne, ne_eq, Bool.not_eq_true', Bool.not_eq_false', bne_eq_false_iff_eq, Bool.not_eq_eq_eq_not, Bool.not_true, Bool.not_false] at g34'
            exact Bool.noConfusion g34
          · have g34' := g34
            try simp only [decide_eq_true_eq, decide_eq_false_iff_not, beq_iff_eq, beq_eq_false_iff_ne, bne_iff_ne, ne_eq, Bool.not_eq_true', Bool.not_eq_false', bne_eq_false_iff_eq, Bool.not_eq_eq_eq_not, Bool.not_true, Bool.not_false] at g34'
            refine Ops.guard_no rfl rfl rfl rfl g34 ?_
            refine Ops.guard_no rfl rfl rfl rfl g34 ?_
            refine Ops.guard_no rfl rfl rfl rfl g34 ?_
            refine Ops.guard_no rfl rfl rfl rfl g34 ?_
            refine Ops.guard_no rfl rfl rfl rfl g34 ?_
            refine Ops.quiet (Qt.pick_t rfl rfl g34) rfl ?_
            refine Ops.nil ?_
            refine H.then_normal ?_
            refine H.cond_true rfl (by rfl) ?_
            refine H.seq ?_
            refine H.region ?_
            refine Ops.quiet (Qt.assign rfl) rfl ?_
            refine Ops.nil ?_
            refine H.then_normal ?_
            refine H.ret ?_
            refine H.then_ret ?_
            refine H.blk_ret ?_
            refine H.then_ret ?_
            refine H.then_ret ?_
            refine H.blk_ret ?_
            refine H.then_ret ?_
            have hb : labelB p = false := by
              have : p = [] := by simpa using g24'
              rw [this]; rfl
            refine (H.ends_to (cs' := cs) rfl (.cons (.tmp rfl) .nil) (fun w hw => ?_) ?_)
            · exact hw.tail
            · exact ⟨by rw [hbad hb]; rfl, rfl⟩
    · try simp only [decide_eq_true_eq, decide_eq_false_iff_not, beq_iff_eq, beq_eq_false_iff_ne, bne_iff_ne, ne_eq, Bool.not_eq_true', Bool.not_eq_false', bne_eq_false_iff_eq, Bool.not_eq_eq_eq_not, Bool.not_true, Bool.not_false] at h15
      refine H.exit ?_
      refine H.then_exit ?_
      refine H.then_exit ?_
      refine H.blk_hit ?_
      refine H.then_normal ?_
      refine H.seq ?_
      refine H.region ?_
      refine Ops.quiet (Qt.assign rfl) rfl ?_
      refine Ops.nil ?_
      refine H.then_normal ?_
      refine H.ret ?_
      have e1 : L.take i = L := List.take_of_length_le (by omega)
      rw [e1, hL] at ha
      refine (H.ends_to (cs' := cs) rfl (.cons (.tmp rfl) .nil) (fun w hw => ?_) ?_)
      · exact hw.tail
      · refine ⟨congrArg bol ?_, rfl⟩
        rw [domainB, ha, decide_eq_true (by omega)]
        rfl
theorem spec_rlower (w0 : World) (s : Bs) (hl : s.length ≤ 4611686018427387904) (cs : List SProp) : Spec Tryz.prog w0 59 [str s] cs (fun v cs' => v = str (lowerB s) ∧ cs' = cs) := by
  refine Spec.of_body Tryz.func59 rfl Tryz.ntmps59 rfl ?_
  refine H.seq ?_
  refine H.region ?_
  refine Ops.quiet (Qt.assign rfl) rfl ?_
  refine Ops.nil ?_
  refine H.then_normal ?_
  refine H.seq ?_
  refine H.region ?_
  refine Ops.quiet (Qt.move rfl) rfl ?_
  refine Ops.eff (Ef.str_bytes rfl (tk rfl) (tk rfl) (tk rfl) (by omega)) rfl ?_
  rintro _ _ ⟨A6, c6, rfl, rfl⟩
  refine Ops.quiet (Qt.assign rfl) rfl ?_
  refine Ops.nil ?_
  refine H.then_normal ?_
  refine H.seq ?_
  refine H.seq ?_
  refine H.region ?_
  refine Ops.quiet (Qt.assign rfl) rfl ?_
  refine Ops.nil ?_
  refine H.then_normal ?_
  refine H.block ?_
  refine H.loop (X := Nat) (fun i => [(3, .slice A6 s.length c6), (4, num i)]) (fun i => osl 5 A6 s.length c6 (((s.take i).map lowC ++ s.drop i).map u8v) :: cs) (fun i => i ≤ s.length) (fun i => s.length - i) 0 (Nat.zero_le _) (by repeat (first | exact trivial | refine ⟨rfl, ?_⟩)) (fun w hw => hw) ?_
  intro i hi
  have hml := map_len lowC s i
  refine H.seq ?_
  refine H.seq ?_
  refine H.region ?_
  refine Ops.quiet (Qt.move rfl) rfl ?_
  refine Ops.quiet (Qt.move rfl) rfl ?_
  refine Ops.quiet (Qt.len_sl (ats := #[]) rfl (tk rfl)) rfl ?_
  refine Ops.quiet (Qt.lss rfl rfl) rfl ?_
  refine Ops.nil ?_
  refine H.then_normal ?_
  refine H.cond rfl (fun h10 => ?_) (fun h10 => ?_)
  · try simp only [decide_eq_true_eq, decide_eq_false_iff_not, beq_iff_eq, beq_eq_false_iff_ne, bne_iff_ne, ne_eq, Bool.not_eq_true', Bool.not_eq_false', bne_eq_false_iff_eq, Bool.not_eq_eq_eq_not, Bool.not_true, Bool.not_false] at h10
    refine H.skip ?_
    refine H.then_normal ?_
    refine H.seq ?_
    refine H.block ?_
    refine H.seq ?_
    have hi2 : i < s.length := by omega
    have hg : ((s.take i).map lowC ++ s.drop i).getD (i : Int).toNat 0 = s[i] := by show ((s.take i).map lowC ++ s.drop i).getD i 0 = _; rw [map_step lowC s i hi2]; simp [List.getD_eq_getElem?_getD, hi2]
    have hb := (s[i]).toNat_lt
    refine H.region ?_
    refine Ops.quiet (Qt.move rfl) rfl ?_
    refine Ops.quiet (Qt.move rfl) rfl ?_
    refine Ops.quiet (Qt.indexAddr rfl rfl (tk rfl) (tk rfl) rfl (by repeat (first | assumption | exact Reads.of_head | apply Reads.tail)) (by omega) (by omega)) rfl ?_
    refine Ops.quiet (Qt.cast (Qt.load_map (0 : UInt8) rfl (tk rfl) rfl (by repeat (first | assumption | exact Reads.of_head | apply Reads.tail)) (by rw [hml]; exact hi2)) (congrArg u8v hg)) rfl ?_
    refine Ops.quiet (Qt.geq rfl rfl) rfl ?_
    refine Ops.quiet (Qt.move rfl) rfl ?_
    refine Ops.guard rfl rfl rfl rfl (fun g18 => ?_) (fun g18 => ?_)
    · have g18' := g18
      try simp only [decide_eq_true_eq, decide_eq_false_iff_not, beq_iff_eq, beq_eq_false_iff_ne, bne_iff_ne, ne_eq, Bool.not_eq_true', Bool.not_eq_false', bne_eq_false_iff_eq, Bool.not_eq_eq_eq_not, Bool.not_true, Bool.not_false] at g18'
      refine Ops.quiet (Qt.move rfl) rfl ?_
      refine Ops.guard_yes rfl rfl rfl rfl g18 ?_
      refine Ops.quiet (Qt.move rfl) rfl ?_
      refine Ops.guard_yes rfl rfl rfl rfl g18 ?_
      refine Ops.quiet (Qt.indexAddr rfl rfl (tk rfl) (tk rfl) rfl (by repeat (first | assumption | exact Reads.of_head | apply Reads.tail)) (by omega) (by omega)) rfl ?_
      refine Ops.guard_yes rfl rfl rfl rfl g18 ?_
      refine Ops.quiet (Qt.cast (Qt.load_map (0 : UInt8) rfl (tk rfl) rfl (by repeat (first | assumption | exact Reads.of_head | apply Reads.tail)) (by rw [hml]; exact hi2)) (congrArg u8v hg)) rfl ?_
      refine Ops.guard_yes rfl rfl rfl rfl g18 ?_
      refine Ops.quiet (Qt.leq rfl rfl) rfl ?_
      refine Ops.quiet (Qt.pick_t rfl rfl g18) rfl ?_
      refine Ops.nil ?_
      refine H.then_normal ?_
      refine H.cond rfl (fun h24 => ?_) (fun h24 => ?_)
      · try simp only [decide_eq_true_eq, decide_eq_false_iff_not, beq_iff_eq, beq_eq_false_iff_ne, bne_iff_ne, ne_eq, Bool.not_eq_true', Bool.not_eq_false', bne_eq_false_iff_eq, Bool.not_eq_eq_eq_not, Bool.not_true, Bool.not_false] at h24
        have e2 : Value.int .u8 ((s[i].toNat : Int) + 32) = u8v (lowC s[i]) := by
          have e : lowC s[i] = UInt8.ofNat (s[i].toNat + 32) := if_pos (by omega)
          rw [e, u8_of (by omega) (by omega)]
          congr 2
        refine H.region ?_
        refine Ops.quiet (Qt.move rfl) rfl ?_
        refine Ops.quiet (Qt.move rfl) rfl ?_
        refine Ops.quiet (Qt.move rfl) rfl ?_
        refine Ops.quiet (Qt.move rfl) rfl ?_
        refine Ops.quiet (Qt.indexAddr rfl rfl (tk rfl) (tk rfl) rfl (by repeat (first | assumption | exact Reads.of_head | apply Reads.tail)) (by omega) (by omega)) rfl ?_
        refine Ops.quiet (Qt.cast (Qt.load_map (0 : UInt8) rfl (tk rfl) rfl (by repeat (first | assumption | exact Reads.of_head | apply Reads.tail)) (by rw [hml]; exact hi2)) (congrArg u8v hg)) rfl ?_
        refine Ops.quiet (Qt.cast (Qt.addk rfl rfl (by first | exact IntWalk.i64_in _ (by omega) | exact IntWalk.u8_in _ (by omega) | exact IntWalk.u64_in _ (by omega) | exact IntWalk.u32_in _ (by omega) | exact IntWalk.u16_in _ (by omega))) e2) rfl ?_
        refine Ops.quiet (Qt.indexAddr rfl rfl (tk rfl) (tk rfl) rfl (by repeat (first | assumption | exact Reads.of_head | apply Reads.tail)) (by omega) (by omega)) rfl ?_
        refine Ops.eff (Ef.store_map (f := u8v) (l := (s.take i).map lowC ++ s.drop i) (b := lowC s[i]) rfl rfl (tk rfl) rfl (fun _ => rfl) (by repeat (first | exact Upd.head | apply Upd.tail)) (by omega)) rfl ?_
        rintro _ _ rfl
        refine Ops.nil ?_
        refine H.blk_normal ?_
        refine H.then_normal ?_
        refine H.region ?_
        refine Ops.quiet (Qt.move rfl) rfl ?_
        refine Ops.quiet (Qt.addk rfl rfl (by first | exact IntWalk.i64_in _ (by omega) | exact IntWalk.u8_in _ (by omega) | exact IntWalk.u64_in _ (by omega) | exact IntWalk.u32_in _ (by omega) | exact IntWalk.u16_in _ (by omega))) rfl ?_
        refine Ops.quiet (Qt.assign rfl) rfl ?_
        refine Ops.nil ?_
        refine H.then_normal ?_
        refine H.round (i + 1) (by omega) (by omega) (by repeat (first | exact trivial | refine ⟨rfl, ?_⟩)) (fun w hw => ?_)
        rw [← map_set lowC s i hi2]
        exact hw
      · try simp only [decide_eq_true_eq, decide_eq_false_iff_not, beq_iff_eq, beq_eq_false_iff_ne, bne_iff_ne, ne_eq, Bool.not_eq_true', Bool.not_eq_false', bne_eq_false_iff_eq, Bool.not_eq_eq_eq_not, Bool.not_true, Bool.not_false] at h24
        refine H.skip ?_
        refine H.blk_normal ?_
        refine H.then_normal ?_
        refine H.region ?_
        refine Ops.quiet (Qt.move rfl) rfl ?_
        refine Ops.quiet (Qt.addk rfl rfl (by first | exact IntWalk.i64_in _ (by omega) | exact IntWalk.u8_in _ (by omega) | exact IntWalk.u64_in _ (by omega) | exact IntWalk.u32_in _ (by omega) | exact IntWalk.u16_in _ (by omega))) rfl ?_
        refine Ops.quiet (Qt.assign rfl) rfl ?_
        refine Ops.nil ?_
        refine H.then_normal ?_
        refine H.round (i + 1) (by omega) (by omega) (by repeat (first | exact trivial | refine ⟨rfl, ?_⟩)) (fun w hw => ?_)
        rw [← map_keep lowC s i hi2 (if_neg (by omega))]
        exact hw
    · have g18' := g18
      try simp only [decide_eq_true_eq, decide_eq_false_iff_not, beq_iff_eq, beq_eq_false_iff_ne, bne_iff_ne, ne_eq, Bool.not_eq_true', Bool.not_eq_false', bne_eq_false_iff_eq, Bool.not_eq_eq_eq_not, Bool.not_true, Bool.not_false] at g18'
      refine Ops.guard_no rfl rfl rfl rfl g18 ?_
      refine Ops.guard_no rfl rfl rfl rfl g18 ?_
      refine Ops.guard_no rfl rfl rfl rfl g18 ?_
      refine Ops.guard_no rfl rfl rfl rfl g18 ?_
      refine Ops.quiet (Qt.pick_f rfl rfl g18) rfl ?_
      refine Ops.nil ?_
      refine H.then_normal ?_
      refine H.cond_false rfl (by rfl) ?_
      refine H.skip ?_
      refine H.blk_normal ?_
      refine H.then_normal ?_
      refine H.region ?_
      refine Ops.quiet (Qt.move rfl) rfl ?_
      refine Ops.quiet (Qt.addk rfl rfl (by first | exact IntWalk.i64_in _ (by omega) | exact IntWalk.u8_in _ (by omega) | exact IntWalk.u64_in _ (by omega) | exact IntWalk.u32_in _ (by omega) | exact IntWalk.u16_in _ (by omega))) rfl ?_
      refine Ops.quiet (Qt.assign rfl) rfl ?_
      refine Ops.nil ?_
      refine H.then_normal ?_
      refine H.round (i + 1) (by omega) (by omega) (by repeat (first | exact trivial | refine ⟨rfl, ?_⟩)) (fun w hw => ?_)
      rw [← map_keep lowC s i hi2 (if_neg (by omega))]
      exact hw
  · try simp only [decide_eq_true_eq, decide_eq_false_iff_not, beq_iff_eq, beq_eq_false_iff_ne, bne_iff_ne, ne_eq, Bool.not_eq_true', Bool.not_eq_false', bne_eq_false_iff_eq, Bool.not_eq_eq_eq_not, Bool.not_true, Bool.not_false] at h10
    refine H.exit ?_
    refine H.then_exit ?_
    refine H.then_exit ?_
    refine H.blk_hit ?_
    refine H.then_normal ?_
    refine H.seq ?_
    refine H.region ?_
    refine Ops.quiet (Qt.move rfl) rfl ?_
    refine Ops.quiet (Qt.bytes_str rfl (tk rfl) (tk rfl) (tk rfl) (by repeat (first | assumption | exact Reads.of_head | apply Reads.tail))) rfl ?_
    refine Ops.quiet (Qt.assign rfl) rfl ?_
    refine Ops.nil ?_
    refine H.then_normal ?_
    refine H.ret ?_
    have e1 : (s.take i).map lowC ++ s.drop i = lowerB s := by rw [List.take_of_length_le (by omega), List.drop_of_length_le (by omega), List.append_nil]; rfl
    rw [e1]
    refine (H.ends_to (cs' := cs) rfl (.cons (.tmp rfl) .nil) (fun w hw => ?_) ?_)
    · exact hw.tail
    · exact ⟨rfl, rfl⟩
theorem spec_rfind (w0 : World) (s : Bs) (c : UInt8) (hl : s.length ≤ 4611686018427387904) (cs : List SProp) : Spec Tryz.prog w0 72 [str s, u8v c] cs (fun v cs' => v = num (Lib.index s [c]) ∧ cs' = cs) := by
  refine Spec.of_body Tryz.func72 rfl Tryz.ntmps72 rfl ?_
  refine H.seq ?_
  refine H.region ?_
  refine Ops.quiet (Qt.assign rfl) rfl ?_
  refine Ops.nil ?_
  refine H.then_normal ?_
  refine H.seq ?_
  refine H.seq ?_
  refine H.region ?_
  refine Ops.quiet (Qt.assign rfl) rfl ?_
  refine Ops.nil ?_
  refine H.then_normal ?_
  refine H.block ?_
  refine H.loop (X := Nat) (fun i => [(0, str s), (1, u8v c), (5, num i)]) (fun i => cs) (fun i => i ≤ s.length ∧ c ∉ s.take i) (fun i => s.length - i) 0 ⟨Nat.zero_le _, by simp⟩ (by repeat (first | exact trivial | refine ⟨rfl, ?_⟩)) (fun w hw => hw) ?_
  intro i ⟨hi, ha⟩
  refine H.seq ?_
  refine H.seq ?_
  refine H.region ?_
  refine Ops.quiet (Qt.move rfl) rfl ?_
  refine Ops.quiet (Qt.move rfl) rfl ?_
  refine Ops.quiet (Qt.len_str rfl (tk rfl)) rfl ?_
  refine Ops.quiet (Qt.lss rfl rfl) rfl ?_
  refine Ops.nil ?_
  refine H.then_normal ?_
  refine H.cond rfl (fun h9 => ?_) (fun h9 => ?_)
  · try simp only [decide_eq_true_eq, decide_eq_false_iff_not, beq_iff_eq, beq_eq_false_iff_ne, bne_iff_ne, ne_eq, Bool.not_eq_true', Bool.not_eq_false', bne_eq_false_iff_eq, Bool.not_eq_eq_eq_not, Bool.not_true, Bool.not_false] at h9
    refine H.skip ?_
    refine H.then_normal ?_
    refine H.seq ?_
    refine H.block ?_
    refine H.seq ?_
    have hi2 : i < s.length := by omega
    have hd : s = s.take i ++ s.getD i 0 :: s.drop (i + 1) := by
      have hg : s.getD i 0 = s[i] := by simp [List.getD_eq_getElem?_getD, hi2]
      rw [hg, ← List.drop_eq_getElem_cons hi2, List.take_append_drop]
    refine H.region ?_
    refine Ops.quiet (Qt.move rfl) rfl ?_
    refine Ops.quiet (Qt.move rfl) rfl ?_
    refine Ops.quiet (Qt.sidx rfl rfl (tk rfl) (by omega) (by omega)) rfl ?_
    refine Ops.quiet (Qt.move rfl) rfl ?_
    refine Ops.quiet (Qt.eql rfl rfl) rfl ?_
    refine Ops.nil ?_
    refine H.then_normal ?_
    refine H.cond rfl (fun h16 => ?_) (fun h16 => ?_)
    · try simp only [decide_eq_true_eq, decide_eq_false_iff_not, beq_iff_eq, beq_eq_false_iff_ne, bne_iff_ne, ne_eq, Bool.not_eq_true', Bool.not_eq_false', bne_eq_false_iff_eq, Bool.not_eq_eq_eq_not, Bool.not_true, Bool.not_false] at h16
      refine H.seq ?_
      refine H.region ?_
      refine Ops.quiet (Qt.move rfl) rfl ?_
      refine Ops.quiet (Qt.assign rfl) rfl ?_
      refine Ops.nil ?_
      refine H.then_normal ?_
      refine H.ret ?_
      refine H.blk_ret ?_
      refine H.then_ret ?_
      refine H.then_ret ?_
      refine H.blk_ret ?_
      refine H.then_ret ?_
      have hx : s.getD i 0 = c := u8_eq h16
      have e1 : Lib.index s [c] = i := by
        rw [hx] at hd
        have := index_at (s.drop (i + 1)) ha
        rw [← hd, List.length_take] at this
        rw [this]; omega
      refine (H.ends rfl (.cons (.tmp rfl) .nil) ?_)
      exact ⟨by rw [e1]; rfl, rfl⟩
    · try simp only [decide_eq_true_eq, decide_eq_false_iff_not, beq_iff_eq, beq_eq_false_iff_ne, bne_iff_ne, ne_eq, Bool.not_eq_true', Bool.not_eq_false', bne_eq_false_iff_eq, Bool.not_eq_eq_eq_not, Bool.not_true, Bool.not_false] at h16
      refine H.skip ?_
      refine H.blk_normal ?_
      refine H.then_normal ?_
      refine H.region ?_
      refine Ops.quiet (Qt.move rfl) rfl ?_
      refine Ops.quiet (Qt.addk rfl rfl (by first | exact IntWalk.i64_in _ (by omega) | exact IntWalk.u8_in _ (by omega) | exact IntWalk.u64_in _ (by omega) | exact IntWalk.u32_in _ (by omega) | exact IntWalk.u16_in _ (by omega))) rfl ?_
      refine Ops.quiet (Qt.assign rfl) rfl ?_
      refine Ops.nil ?_
      refine H.then_normal ?_
      have hx : ¬ s.getD i 0 = c := fun e => h16 (by show ((s.getD i 0).toNat : Int) = _; rw [e])
      refine H.round (i + 1) ⟨by omega, ?_⟩ (by omega) (by repeat (first | exact trivial | refine ⟨rfl, ?_⟩)) (fun w hw => hw)
      have hg : s.getD i 0 = s[i] := by simp [List.getD_eq_getElem?_getD, hi2]
      rw [List.take_succ_eq_append_getElem hi2, List.mem_append, List.mem_singleton, ← hg]
      intro h
      rcases h with h | h
      · exact ha h
      · exact hx h.symm
  · try simp only [decide_eq_true_eq, decide_eq_false_iff_not, beq_iff_eq, beq_eq_false_iff_ne, bne_iff_ne, ne_eq, Bool.not_eq_true', Bool.not_eq_false', bne_eq_false_iff_eq, Bool.not_eq_eq_eq_not, Bool.not_true, Bool.not_false] at h9
    refine H.exit ?_
    refine H.then_exit ?_
    refine H.then_exit ?_
    refine H.blk_hit ?_
    refine H.then_normal ?_
    refine H.seq ?_
    refine H.region ?_
    refine Ops.quiet (Qt.assign rfl) rfl ?_
    refine Ops.nil ?_
    refine H.then_normal ?_
    refine H.ret ?_
    have e1 : s.take i = s := List.take_of_length_le (by omega)
    rw [e1] at ha
    refine (H.ends rfl (.cons (.tmp rfl) .nil) ?_)
    exact ⟨by rw [index_not_mem ha]; rfl, rfl⟩
theorem spec_rsplit (w0 : World) (s : Bs) (hl : s.length ≤ 4611686018427387904) (cs : List SProp) : Spec Tryz.prog w0 58 [str s] cs (fun v cs' => v = .tuple #[str (splitM s).1, str (splitM s).2.1, bol (splitM s).2.2] ∧ cs' = cs) := by
  obtain ⟨n, hn⟩ : ∃ n, n = Lib.index s [64] := ⟨_, rfl⟩
  have hge := Lib.index_ge s [64]
  rw [← hn] at hge
  have hroom : 0 ≤ n → n + 1 ≤ s.length := fun h => by
    have := Lib.index_room s [64] (by omega)
    rw [← hn] at this
    simp at this; omega
  have hc : Lib.cut s [64] = if 0 ≤ n then (s.take n.toNat, s.drop (n.toNat + 1), true) else (s, [], false) := by rw [hn]; rfl
  have sf := fun cs => spec_rfind w0 s 64 hl cs
  rw [← hn] at sf
  refine Spec.of_body Tryz.func58 rfl Tryz.ntmps58 rfl ?_
  refine H.seq ?_
  refine H.region ?_
  refine Ops.quiet (Qt.assign rfl) rfl ?_
  refine Ops.quiet (Qt.assign rfl) rfl ?_
  refine Ops.quiet (Qt.assign rfl) rfl ?_
  refine Ops.nil ?_
  refine H.then_normal ?_
  refine H.seq ?_
  refine H.region ?_
  refine Ops.quiet (Qt.move rfl) rfl ?_
  refine Ops.eff (Ef.call (fok fab_all rfl Tryz.func72 rfl) rfl (sf _)) rfl ?_
  rintro _ c0 ⟨rfl, h0⟩; subst c0
  refine Ops.quiet (Qt.assign rfl) rfl ?_
  refine Ops.nil ?_
  refine H.then_normal ?_
  refine H.seq ?_
  refine H.seq ?_
  refine H.region ?_
  refine Ops.quiet (Qt.move rfl) rfl ?_
  refine Ops.quiet (Qt.lss rfl rfl) rfl ?_
  refine Ops.quiet (Qt.move rfl) rfl ?_
  refine Ops.guard rfl rfl rfl rfl (fun g10 => ?_) (fun g10 => ?_)
  · have g10' := g10
    try simp only [decide_eq_true_eq, decide_eq_false_iff_not, beq_iff_eq, beq_eq_false_iff_ne, bne_iff_ne, ne_eq, Bool.not_eq_true', Bool.not_eq_false', bne_eq_false_iff_eq, Bool.not_eq_eq_eq_not, Bool.not_true, Bool.not_false] at g10'
    have hn0 : 0 ≤ n := by simpa using g10'
    have hr := hroom hn0
    rw [if_pos hn0] at hc
    obtain ⟨m, rfl⟩ : ∃ m : Nat, n = m := ⟨n.toNat, by omega⟩
    have e1 : (s.drop (0 : Int).toNat).take ((m : Int).toNat - (0 : Int).toNat) = s.take m := by simp
    have e2 : (s.drop ((m : Int) + 1).toNat).take ((s.length : Int).toNat - ((m : Int) + 1).toNat) = s.drop (m + 1) := by
      have : ((m : Int) + 1).toNat = m + 1 := by omega
      rw [this, List.take_of_length_le (by rw [List.length_drop]; omega)]
    have hl1 : (s.take m).length ≤ s.length := by rw [List.length_take]; omega
    have hl2 : (s.drop (m + 1)).length ≤ s.length := by rw [List.length_drop]; omega
    refine Ops.quiet (Qt.move rfl) rfl ?_
    refine Ops.guard_yes rfl rfl rfl rfl g10 ?_
    refine Ops.quiet (Qt.move rfl) rfl ?_
    refine Ops.guard_yes rfl rfl rfl rfl g10 ?_
    refine Ops.quiet (Qt.cast (Qt.sslice rfl (tk rfl) rfl rfl (by omega) (by omega) (by omega)) (congrArg str e1)) rfl ?_
    refine Ops.guard_yes rfl rfl rfl rfl g10 ?_
    refine Ops.eff (Ef.call (fok fab_all rfl Tryz.func73 rfl) rfl (spec_rlocal w0 (s.take m) (by omega) _)) rfl ?_
    rintro _ c0 ⟨rfl, h0⟩; subst c0
    refine Ops.guard_yes rfl rfl rfl rfl g10 ?_
    refine Ops.quiet (Qt.not rfl) rfl ?_
    refine Ops.quiet (Qt.pick_f rfl rfl g10) rfl ?_
    refine Ops.quiet (Qt.move rfl) rfl ?_
    refine Ops.guard rfl rfl rfl rfl (fun g17 => ?_) (fun g17 => ?_)
    · have g17' := g17
      try simp only [decide_eq_true_eq, decide_eq_false_iff_not, beq_iff_eq, beq_eq_false_iff_ne, bne_iff_ne, ne_eq, Bool.not_eq_true', Bool.not_eq_false', bne_eq_false_iff_eq, Bool.not_eq_eq_eq_not, Bool.not_true, Bool.not_false] at g17'
      refine Ops.quiet (Qt.move rfl) rfl ?_
      refine Ops.guard_yes rfl rfl rfl rfl g17 ?_
      refine Ops.quiet (Qt.move rfl) rfl ?_
      refine Ops.guard_yes rfl rfl rfl rfl g17 ?_
      refine Ops.quiet (Qt.addk rfl rfl (by first | exact IntWalk.i64_in _ (by omega) | exact IntWalk.u8_in _ (by omega) | exact IntWalk.u64_in _ (by omega) | exact IntWalk.u32_in _ (by omega) | exact IntWalk.u16_in _ (by omega))) rfl ?_
      refine Ops.guard_yes rfl rfl rfl rfl g17 ?_
      refine Ops.quiet (Qt.cast (Qt.sslice rfl (tk rfl) rfl rfl (by omega) (by omega) (by omega)) (congrArg str e2)) rfl ?_
      refine Ops.guard_yes rfl rfl rfl rfl g17 ?_
      refine Ops.eff (Ef.call (fok fab_all rfl Tryz.func74 rfl) rfl (spec_rdomain w0 (s.drop (m + 1)) (by omega) _)) rfl ?_
      rintro _ c0 ⟨rfl, h0⟩; subst c0
      refine Ops.guard_yes rfl rfl rfl rfl g17 ?_
      refine Ops.quiet (Qt.not rfl) rfl ?_
      refine Ops.quiet (Qt.pick_f rfl rfl g17) rfl ?_
      refine Ops.nil ?_
      refine H.then_normal ?_
      refine H.cond rfl (fun h24 => ?_) (fun h24 => ?_)
      · try simp only [decide_eq_true_eq, decide_eq_false_iff_not, beq_iff_eq, beq_eq_false_iff_ne, bne_iff_ne, ne_eq, Bool.not_eq_true', Bool.not_eq_false', bne_eq_false_iff_eq, Bool.not_eq_eq_eq_not, Bool.not_true, Bool.not_false] at h24
        refine H.seq ?_
        refine H.region ?_
        refine Ops.quiet (Qt.assign rfl) rfl ?_
        refine Ops.quiet (Qt.assign rfl) rfl ?_
        refine Ops.quiet (Qt.assign rfl) rfl ?_
        refine Ops.nil ?_
        refine H.then_normal ?_
        refine H.ret ?_
        refine H.then_ret ?_
        refine (H.ends rfl (.cons (.tmp rfl) (.cons (.tmp rfl) (.cons (.tmp rfl) .nil))) ?_)
        refine ⟨?_, rfl⟩
        have hc2 : Lib.cut s [64] = (s.take m, s.drop (m + 1), true) := hc
        have e : domainB (s.drop (m + 1)) = false := by simpa using h24
        rw [splitM, hc2, e]
        simp [retV]
      · try simp only [decide_eq_true_eq, decide_eq_false_iff_not, beq_iff_eq, beq_eq_false_iff_ne, bne_iff_ne, ne_eq, Bool.not_eq_true', Bool.not_eq_false', bne_eq_false_iff_eq, Bool.not_eq_eq_eq_not, Bool.not_true, Bool.not_false] at h24
        refine H.skip ?_
        refine H.then_normal ?_
        refine H.seq ?_
        refine H.drawn_all 8 mixed (by kernel_rfl) ?_
        refine Hd.quiet 0 (by kernel_rfl) rfl rfl (by kernel_rfl) rfl (Qt.move rfl) ?_
        refine Hd.quiet 1 (by kernel_rfl) rfl rfl (by kernel_rfl) rfl (Qt.move rfl) ?_
        refine Hd.quiet 2 (by kernel_rfl) rfl rfl (by kernel_rfl) rfl (Qt.cast (Qt.sslice rfl (tk rfl) rfl rfl (by omega) (by omega) (by omega)) (congrArg str e1)) ?_
        refine Hd.quiet 3 (by kernel_rfl) rfl rfl (by kernel_rfl) rfl (Qt.move rfl) ?_
        refine Hd.quiet 4 (by kernel_rfl) rfl rfl (by kernel_rfl) rfl (Qt.move rfl) ?_
        refine Hd.quiet 5 (by kernel_rfl) rfl rfl (by kernel_rfl) rfl (Qt.addk rfl rfl (by first | exact IntWalk.i64_in _ (by omega) | exact IntWalk.u8_in _ (by omega) | exact IntWalk.u64_in _ (by omega) | exact IntWalk.u32_in _ (by omega) | exact IntWalk.u16_in _ (by omega))) ?_
        refine Hd.quiet 6 (by kernel_rfl) rfl rfl (by kernel_rfl) rfl (Qt.cast (Qt.sslice rfl (tk rfl) rfl rfl (by omega) (by omega) (by omega)) (congrArg str e2)) ?_
        refine Hd.quiet 7 (by kernel_rfl) rfl rfl (by kernel_rfl) rfl (Qt.assign rfl) ?_
        refine Hd.tail (by intro w hw; first | exact hw | exact Own.sub (by repeat (first | exact List.Sublist.refl _ | exact List.nil_sublist _ | apply List.Sublist.cons_cons | apply List.Sublist.cons)) hw) (by kernel_rfl) rfl ?_
        refine Ops.quiet (Qt.assign rfl) rfl ?_
        refine Ops.quiet (Qt.assign rfl) rfl ?_
        refine Ops.nil ?_
        refine H.then_normal ?_
        refine H.ret ?_
        refine (H.ends rfl (.cons (.tmp rfl) (.cons (.tmp rfl) (.cons (.tmp rfl) .nil))) ?_)
        refine ⟨?_, rfl⟩
        have hc2 : Lib.cut s [64] = (s.take m, s.drop (m + 1), true) := hc
        have e0 : localB (s.take m) = true := by simpa using g17'
        have e : domainB (s.drop (m + 1)) = true := by simpa using h24
        rw [splitM, hc2, e, e0]
        rfl
    · have g17' := g17
      try simp only [decide_eq_true_eq, decide_eq_false_iff_not, beq_iff_eq, beq_eq_false_iff_ne, bne_iff_ne, ne_eq, Bool.not_eq_true', Bool.not_eq_false', bne_eq_false_iff_eq, Bool.not_eq_eq_eq_not, Bool.not_true, Bool.not_false] at g17'
      refine Ops.guard_no rfl rfl rfl rfl g17 ?_
      refine Ops.guard_no rfl rfl rfl rfl g17 ?_
      refine Ops.guard_no rfl rfl rfl rfl g17 ?_
      refine Ops.guard_no rfl rfl rfl rfl g17 ?_
      refine Ops.guard_no rfl rfl rfl rfl g17 ?_
      refine Ops.quiet (Qt.pick_t rfl rfl g17) rfl ?_
      refine Ops.nil ?_
      refine H.then_normal ?_
      refine H.cond_true rfl (by rfl) ?_
      refine H.seq ?_
      refine H.region ?_
      refine Ops.quiet (Qt.assign rfl) rfl ?_
      refine Ops.quiet (Qt.assign rfl) rfl ?_
      refine Ops.quiet (Qt.assign rfl) rfl ?_
      refine Ops.nil ?_
      refine H.then_normal ?_
      refine H.ret ?_
      refine H.then_ret ?_
      refine (H.ends rfl (.cons (.tmp rfl) (.cons (.tmp rfl) (.cons (.tmp rfl) .nil))) ?_)
      refine ⟨?_, rfl⟩
      have hc2 : Lib.cut s [64] = (s.take m, s.drop (m + 1), true) := hc
      have e : localB (s.take m) = false := by simpa using g17'
      rw [splitM, hc2, e]
      rfl
  · have g10' := g10
    try simp only [decide_eq_true_eq, decide_eq_false_iff_not, beq_iff_eq, beq_eq_false_iff_ne, bne_iff_ne, ne_eq, Bool.not_eq_true', Bool.not_eq_false', bne_eq_false_iff_eq, Bool.not_eq_eq_eq_not, Bool.not_true, Bool.not_false] at g10'
    refine Ops.guard_no rfl rfl rfl rfl g10 ?_
    refine Ops.guard_no rfl rfl rfl rfl g10 ?_
    refine Ops.guard_no rfl rfl rfl rfl g10 ?_
    refine Ops.guard_no rfl rfl rfl rfl g10 ?_
    refine Ops.quiet (Qt.pick_t rfl rfl g10) rfl ?_
    refine Ops.quiet (Qt.move rfl) rfl ?_
    refine Ops.guard rfl rfl rfl rfl (fun g17 => ?_) (fun g17 => ?_)
    · have g17' := g17
      try simp only [decide_eq_true_eq, decide_eq_false_iff_not, beq_iff_eq, beq_eq_false_iff_ne, bne_iff_ne, ne_eq, Bool.not_eq_true', Bool.not_eq_false', bne_eq_false_iff_eq, Bool.not_eq_eq_eq_not, Bool.not_true, Bool.not_false] at g17'
      exact Bool.noConfusion g17
    · have g17' := g17
      try simp only [decide_eq_true_eq, decide_eq_false_iff_not, beq_iff_eq, beq_eq_false_iff_ne, bne_iff_ne, ne_eq, Bool.not_eq_true', Bool.not_eq_false', bne_eq_false_iff_eq, Bool.not_eq_eq_eq_not, Bool.not_true, Bool.not_false] at g17'
      refine Ops.guard_no rfl rfl rfl rfl g17 ?_
      refine Ops.guard_no rfl rfl rfl rfl g17 ?_
      refine Ops.guard_no rfl rfl rfl rfl g17 ?_
      refine Ops.guard_no rfl rfl rfl rfl g17 ?_
      refine Ops.guard_no rfl rfl rfl rfl g17 ?_
      refine Ops.quiet (Qt.pick_t rfl rfl g17) rfl ?_
      refine Ops.nil ?_
      refine H.then_normal ?_
      refine H.cond_true rfl (by rfl) ?_
      refine H.seq ?_
      refine H.region ?_
      refine Ops.quiet (Qt.assign rfl) rfl ?_
      refine Ops.quiet (Qt.assign rfl) rfl ?_
      refine Ops.quiet (Qt.assign rfl) rfl ?_
      refine Ops.nil ?_
      refine H.then_normal ?_
      refine H.ret ?_
      refine H.then_ret ?_
      refine (H.ends rfl (.cons (.tmp rfl) (.cons (.tmp rfl) (.cons (.tmp rfl) .nil))) ?_)
      refine ⟨?_, rfl⟩
      rw [if_neg (by omega)] at hc
      rw [splitM, hc]
      rfl
theorem spec_rcanon (w0 : World) (s : Bs) (hl : s.length ≤ 4611686018427387000) (cs : List SProp) : Spec Tryz.prog w0 34 [str s] cs (fun v cs' => v = .tuple #[str (canonM s).1, bol (canonM s).2] ∧ cs' = cs) := by
  have hc := splitM_len s
  have hw := lowerB_len (splitM s).2.1
  refine Spec.of_body Tryz.func34 rfl Tryz.ntmps34 rfl ?_
  refine H.seq ?_
  refine H.region ?_
  refine Ops.quiet (Qt.assign rfl) rfl ?_
  refine Ops.quiet (Qt.assign rfl) rfl ?_
  refine Ops.nil ?_
  refine H.then_normal ?_
  refine H.seq ?_
  refine H.region ?_
  refine Ops.quiet (Qt.move rfl) rfl ?_
  refine Ops.eff (Ef.call (fok fab_all rfl Tryz.func58 rfl) rfl (spec_rsplit w0 s (by omega) _)) rfl ?_
  rintro _ c0 ⟨rfl, h0⟩; subst c0
  refine Ops.quiet (Qt.move rfl) rfl ?_
  refine Ops.quiet (Qt.extract rfl rfl) rfl ?_
  refine Ops.quiet (Qt.extract rfl rfl) rfl ?_
  refine Ops.quiet (Qt.extract rfl rfl) rfl ?_
  refine Ops.quiet (Qt.assign rfl) rfl ?_
  refine Ops.quiet (Qt.assign rfl) rfl ?_
  refine Ops.quiet (Qt.assign rfl) rfl ?_
  refine Ops.nil ?_
  refine H.then_normal ?_
  refine H.seq ?_
  refine H.seq ?_
  refine H.region ?_
  refine Ops.quiet (Qt.move rfl) rfl ?_
  refine Ops.quiet (Qt.not rfl) rfl ?_
  refine Ops.nil ?_
  refine H.then_normal ?_
  refine H.cond rfl (fun h14 => ?_) (fun h14 => ?_)
  · try simp only [decide_eq_true_eq, decide_eq_false_iff_not, beq_iff_eq, beq_eq_false_iff_ne, bne_iff_ne, ne_eq, Bool.not_eq_true', Bool.not_eq_false', bne_eq_false_iff_eq, Bool.not_eq_eq_eq_not, Bool.not_true, Bool.not_false] at h14
    refine H.seq ?_
    refine H.region ?_
    refine Ops.quiet (Qt.assign rfl) rfl ?_
    refine Ops.quiet (Qt.assign rfl) rfl ?_
    refine Ops.nil ?_
    refine H.then_normal ?_
    refine H.ret ?_
    refine H.then_ret ?_
    refine (H.ends rfl (.cons (.tmp rfl) (.cons (.tmp rfl) .nil)) ?_)
    refine ⟨?_, rfl⟩
    have e : (splitM s).2.2 = false := by simpa using h14
    simp [canonM, e, retV]
  · try simp only [decide_eq_true_eq, decide_eq_false_iff_not, beq_iff_eq, beq_eq_false_iff_ne, bne_iff_ne, ne_eq, Bool.not_eq_true', Bool.not_eq_false', bne_eq_false_iff_eq, Bool.not_eq_eq_eq_not, Bool.not_true, Bool.not_false] at h14
    refine H.skip ?_
    refine H.then_normal ?_
    refine H.seq ?_
    refine H.region ?_
    refine Ops.quiet (Qt.move rfl) rfl ?_
    refine Ops.quiet (Qt.cat rfl rfl (by (try simp only [List.length_append, List.length_cons, List.length_nil]); omega)) rfl ?_
    refine Ops.quiet (Qt.move rfl) rfl ?_
    refine Ops.eff (Ef.call (fok fab_all rfl Tryz.func59 rfl) rfl (spec_rlower w0 (splitM s).2.1 (by omega) _)) rfl ?_
    rintro _ c0 ⟨rfl, h0⟩; subst c0
    refine Ops.quiet (Qt.cat rfl rfl (by (try simp only [List.length_append, List.length_cons, List.length_nil]); omega)) rfl ?_
    refine Ops.quiet (Qt.assign rfl) rfl ?_
    refine Ops.quiet (Qt.assign rfl) rfl ?_
    refine Ops.nil ?_
    refine H.then_normal ?_
    refine H.ret ?_
    refine (H.ends rfl (.cons (.tmp rfl) (.cons (.tmp rfl) .nil)) ?_)
    refine ⟨?_, rfl⟩
    have e : (splitM s).2.2 = true := by simpa using h14
    simp [canonM, e, retV]
theorem spec_rmailbox (w0 : World) (s : Bs) (hl : s.length ≤ 4611686018427387000) (cs : List SProp) : Spec Tryz.prog w0 18 [str s] cs (fun v cs' => v = bol (mboxB s) ∧ cs' = cs) := by
  refine Spec.of_body Tryz.func18 rfl Tryz.ntmps18 rfl ?_
  refine H.seq ?_
  refine H.region ?_
  refine Ops.quiet (Qt.assign rfl) rfl ?_
  refine Ops.nil ?_
  refine H.then_normal ?_
  refine H.seq ?_
  refine H.region ?_
  refine Ops.quiet (Qt.move rfl) rfl ?_
  refine Ops.eff (Ef.call (fok fab_all rfl Tryz.func34 rfl) rfl (spec_rcanon w0 s hl _)) rfl ?_
  rintro _ c0 ⟨rfl, h0⟩; subst c0
  refine Ops.quiet (Qt.move rfl) rfl ?_
  refine Ops.quiet (Qt.extract rfl rfl) rfl ?_
  refine Ops.quiet (Qt.extract rfl rfl) rfl ?_
  refine Ops.quiet (Qt.assign rfl) rfl ?_
  refine Ops.quiet (Qt.assign rfl) rfl ?_
  refine Ops.nil ?_
  refine H.then_normal ?_
  refine H.seq ?_
  refine H.region ?_
  refine Ops.quiet (Qt.move rfl) rfl ?_
  refine Ops.quiet (Qt.move rfl) rfl ?_
  refine Ops.guard rfl rfl rfl rfl (fun g11 => ?_) (fun g11 => ?_)
  · have g11' := g11
    try simp only [decide_eq_true_eq, decide_eq_false_iff_not, beq_iff_eq, beq_eq_false_iff_ne, bne_iff_ne, ne_eq, Bool.not_eq_true', Bool.not_eq_false', bne_eq_false_iff_eq, Bool.not_eq_eq_eq_not, Bool.not_true, Bool.not_false] at g11'
    refine Ops.quiet (Qt.move rfl) rfl ?_
    refine Ops.guard_yes rfl rfl rfl rfl g11 ?_
    refine Ops.quiet (Qt.move rfl) rfl ?_
    refine Ops.guard_yes rfl rfl rfl rfl g11 ?_
    refine Ops.quiet (Qt.seq rfl rfl) rfl ?_
    refine Ops.quiet (Qt.pick_t rfl rfl g11) rfl ?_
    refine Ops.quiet (Qt.assign rfl) rfl ?_
    refine Ops.nil ?_
    refine H.then_normal ?_
    refine H.ret ?_
    refine (H.ends rfl (.cons (.tmp rfl) .nil) ?_)
    refine ⟨congrArg bol ?_, rfl⟩
    rw [mboxB, g11, Bool.true_and]
  · have g11' := g11
    try simp only [decide_eq_true_eq, decide_eq_false_iff_not, beq_iff_eq, beq_eq_false_iff_ne, bne_iff_ne, ne_eq, Bool.not_eq_true', Bool.not_eq_false', bne_eq_false_iff_eq, Bool.not_eq_eq_eq_not, Bool.not_true, Bool.not_false] at g11'
    refine Ops.guard_no rfl rfl rfl rfl g11 ?_
    refine Ops.guard_no rfl rfl rfl rfl g11 ?_
    refine Ops.quiet (Qt.pick_f rfl rfl g11) rfl ?_
    refine Ops.quiet (Qt.assign rfl) rfl ?_
    refine Ops.nil ?_
    refine H.then_normal ?_
    refine H.ret ?_
    refine (H.ends rfl (.cons (.tmp rfl) .nil) ?_)
    refine ⟨congrArg bol ?_, rfl⟩
    rw [mboxB, g11]
    rfl
end Go.Proofs.YtbglphpinhjfeaaGreatDoor
