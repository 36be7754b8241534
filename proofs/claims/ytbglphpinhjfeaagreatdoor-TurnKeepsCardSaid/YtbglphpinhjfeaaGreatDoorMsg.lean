/- Messages: what a good one is, as a plain function; env.Good and the document's Good walked against it; comparisons. -/
import Derived.Test.YtbglphpinhjfeaaGreatDoorRad
namespace Go.Proofs.YtbglphpinhjfeaaGreatDoor
open Go Go.RowKit
set_option maxRecDepth 100000
set_option linter.unusedVariables false
set_option linter.unusedSimpArgs false
attribute [local irreducible] Go.wpList Go.Code.wp Go.Exit.then Go.Exit.inBlock Go.Exit.noGoto Ends blk osl oblk LoopI Own Spec
structure Mg where
  id : Int
  gen : Int
  born : Int
  tries : Int
  due : Int
  frm : Bs
  rcpts : List Bs
  marks : List Int
  body : List Bs
structure Sl where
  A : Option Addr
  n : Nat
  c : Nat
structure Ma where
  r : Sl
  m : Sl
  b : Sl
abbrev Sl.v (s : Sl) : Value := .slice s.A s.n s.c
abbrev Mg.cells (m : Mg) (a : Ma) : List Value := [num m.id, num m.gen, num m.born, num m.tries, num m.due, str m.frm, a.r.v, a.m.v, a.b.v]
abbrev Mg.v (m : Mg) (a : Ma) : Value := .agg #[num m.id, num m.gen, num m.born, num m.tries, num m.due, str m.frm, a.r.v, a.m.v, a.b.v]
/-- What an argument's message may be. -/
structure MA (m : Mg) (a : Ma) : Prop where
  f : m.frm.length ≤ 1000000000000000
  r : ∀ s ∈ m.rcpts, s.length ≤ 1000000000000000
  b : ∀ s ∈ m.body, s.length ≤ 1000000000000000
  rn : m.rcpts.length ≤ 1000000000000000
  mn : m.marks.length ≤ 1000000000000000
  bn : m.body.length ≤ 1000000000000000
/-- The message's lists can be read. -/
structure MR (w0 : World) (cs : List SProp) (m : Mg) (a : Ma) : Prop where
  rR : Reads w0 cs a.r.A a.r.n a.r.c (m.rcpts.map str)
  mR : Reads w0 cs a.m.A a.m.n a.m.c (m.marks.map num)
  bR : Reads w0 cs a.b.A a.b.n a.b.c (m.body.map str)
theorem MR.tail {w0 : World} {cs : List SProp} {m : Mg} {a : Ma} {c : SProp} (h : MR w0 cs m a) : MR w0 (c :: cs) m a := ⟨h.rR.tail, h.mR.tail, h.bR.tail⟩
/-- No part of it is larger than memory lets by. -/
structure MB (m : Mg) : Prop where
  f : m.frm.length ≤ 1000000
  r : ∀ s ∈ m.rcpts, s.length ≤ 1000000
  b : ∀ s ∈ m.body, s.length ≤ 1000000
  rn : m.rcpts.length ≤ 1000000
  mn : m.marks.length ≤ 1000000
  bn : m.body.length ≤ 1000000
def timeB (n : Int) : Bool := decide (0 ≤ n) && decide (n ≤ 1099511627776)
def oddM (n : Int) : Bool := decide (n < 0) || decide (2 < n)
def Mg.nums (m : Mg) : List Int := [m.id, m.gen, m.born, m.tries, m.due]
def goodM (m : Mg) : Bool :=
  !(m.nums.any fun n => !(timeB n)) && ((m.frm == [] || mboxB m.frm) && (decide ((1 : Int) ≤ m.rcpts.length) && (decide ((m.rcpts.length : Int) ≤ 20) && (!(m.rcpts.any fun s => !(mboxB s)) && (decide ((m.marks.length : Int) ≤ 50) && (!(m.marks.any oddM) && goodB m.body))))))
theorem spec_time (w0 : World) (n : Int) (cs : List SProp) : Spec Tryz.prog w0 51 [num n] cs (fun v cs' => v = bol (timeB n) ∧ cs' = cs) := by
  refine Spec.of_body Tryz.func51 rfl Tryz.ntmps51 rfl ?_
  refine H.seq ?_
  refine H.region ?_
  refine Ops.quiet (Qt.assign rfl) rfl ?_
  refine Ops.nil ?_
  refine H.then_normal ?_
  refine H.seq ?_
  refine H.region ?_
  refine Ops.quiet (Qt.move rfl) rfl ?_
  refine Ops.quiet (Qt.geq rfl rfl) rfl ?_
  refine Ops.quiet (Qt.move rfl) rfl ?_
  refine Ops.guard rfl rfl rfl rfl (fun g5 => ?_) (fun g5 => ?_)
  · have g5' := g5
    try simp only [decide_eq_true_eq, decide_eq_false_iff_not, beq_iff_eq, beq_eq_false_iff_ne, bne_iff_ne, ne_eq, Bool.not_eq_true', Bool.not_eq_false', bne_eq_false_iff_eq, Bool.not_eq_eq_eq_not, Bool.not_true, Bool.not_false] at g5'
    refine Ops.quiet (Qt.move rfl) rfl ?_
    refine Ops.guard_yes rfl rfl rfl rfl g5 ?_
    refine Ops.quiet (Qt.leq rfl rfl) rfl ?_
    refine Ops.quiet (Qt.pick_t rfl rfl g5) rfl ?_
    refine Ops.quiet (Qt.assign rfl) rfl ?_
    refine Ops.nil ?_
    refine H.then_normal ?_
    refine H.ret ?_
    refine (H.ends rfl (.cons (.tmp rfl) .nil) ?_)
    exact ⟨by rw [timeB, g5, Bool.true_and]; rfl, rfl⟩
  · have g5' := g5
    try simp only [decide_eq_true_eq, decide_eq_false_iff_not, beq_iff_eq, beq_eq_false_iff_ne, bne_iff_ne, ne_eq, Bool.not_eq_true', Bool.not_eq_false', bne_eq_false_iff_eq, Bool.not_eq_eq_eq_not, Bool.not_true, Bool.not_false] at g5'
    refine Ops.guard_no rfl rfl rfl rfl g5 ?_
    refine Ops.quiet (Qt.pick_f rfl rfl g5) rfl ?_
    refine Ops.quiet (Qt.assign rfl) rfl ?_
    refine Ops.nil ?_
    refine H.then_normal ?_
    refine H.ret ?_
    refine (H.ends rfl (.cons (.tmp rfl) .nil) ?_)
    exact ⟨by rw [timeB, g5]; rfl, rfl⟩
theorem spec_odd (w0 : World) (n : Int) (cs : List SProp) : Spec Tryz.prog w0 48 [num n] cs (fun v cs' => v = bol (oddM n) ∧ cs' = cs) := by
  refine Spec.of_body Tryz.func48 rfl Tryz.ntmps48 rfl ?_
  refine H.seq ?_
  refine H.region ?_
  refine Ops.quiet (Qt.assign rfl) rfl ?_
  refine Ops.nil ?_
  refine H.then_normal ?_
  refine H.seq ?_
  refine H.region ?_
  refine Ops.quiet (Qt.move rfl) rfl ?_
  refine Ops.quiet (Qt.lss rfl rfl) rfl ?_
  refine Ops.quiet (Qt.move rfl) rfl ?_
  refine Ops.guard rfl rfl rfl rfl (fun g5 => ?_) (fun g5 => ?_)
  · have g5' := g5
    try simp only [decide_eq_true_eq, decide_eq_false_iff_not, beq_iff_eq, beq_eq_false_iff_ne, bne_iff_ne, ne_eq, Bool.not_eq_true', Bool.not_eq_false', bne_eq_false_iff_eq, Bool.not_eq_eq_eq_not, Bool.not_true, Bool.not_false] at g5'
    refine Ops.quiet (Qt.move rfl) rfl ?_
    refine Ops.guard_yes rfl rfl rfl rfl g5 ?_
    refine Ops.quiet (Qt.gtr rfl rfl) rfl ?_
    refine Ops.quiet (Qt.pick_f rfl rfl g5) rfl ?_
    refine Ops.quiet (Qt.assign rfl) rfl ?_
    refine Ops.nil ?_
    refine H.then_normal ?_
    refine H.ret ?_
    refine (H.ends rfl (.cons (.tmp rfl) .nil) ?_)
    exact ⟨by rw [oddM, g5, Bool.false_or]; rfl, rfl⟩
  · have g5' := g5
    try simp only [decide_eq_true_eq, decide_eq_false_iff_not, beq_iff_eq, beq_eq_false_iff_ne, bne_iff_ne, ne_eq, Bool.not_eq_true', Bool.not_eq_false', bne_eq_false_iff_eq, Bool.not_eq_eq_eq_not, Bool.not_true, Bool.not_false] at g5'
    refine Ops.guard_no rfl rfl rfl rfl g5 ?_
    refine Ops.quiet (Qt.pick_t rfl rfl g5) rfl ?_
    refine Ops.quiet (Qt.assign rfl) rfl ?_
    refine Ops.nil ?_
    refine H.then_normal ?_
    refine H.ret ?_
    refine (H.ends rfl (.cons (.tmp rfl) .nil) ?_)
    exact ⟨by rw [oddM, g5]; rfl, rfl⟩
theorem spec_ntime (w0 : World) (n : Int) (cs : List SProp) : Spec Tryz.prog w0 50 [num n] cs (fun v cs' => v = bol (!(timeB n)) ∧ cs' = cs) := by
  refine Spec.of_body Tryz.func50 rfl Tryz.ntmps50 rfl ?_
  refine H.seq ?_
  refine H.region ?_
  refine Ops.quiet (Qt.assign rfl) rfl ?_
  refine Ops.nil ?_
  refine H.then_normal ?_
  refine H.seq ?_
  refine H.region ?_
  refine Ops.quiet (Qt.move rfl) rfl ?_
  refine Ops.eff (Ef.call (fok fab_all rfl Tryz.func51 rfl) rfl (spec_time w0 n _)) rfl ?_
  rintro _ c0 ⟨rfl, h0⟩; subst c0
  refine Ops.quiet (Qt.not rfl) rfl ?_
  refine Ops.quiet (Qt.assign rfl) rfl ?_
  refine Ops.nil ?_
  refine H.then_normal ?_
  refine H.ret ?_
  refine (H.ends rfl (.cons (.tmp rfl) .nil) ?_)
  exact ⟨rfl, rfl⟩
theorem spec_nmbox (w0 : World) (hG : Gl w0) (s : Bs) (hl : s.length < 4294967281) (cs : List SProp) : Spec Tryz.prog w0 54 [str s] cs (fun v cs' => v = bol (!(mboxB s)) ∧ cs' = cs) := by
  refine Spec.of_body Tryz.func54 rfl Tryz.ntmps54 rfl ?_
  refine H.seq ?_
  refine H.region ?_
  refine Ops.quiet (Qt.assign rfl) rfl ?_
  refine Ops.nil ?_
  refine H.then_normal ?_
  refine H.seq ?_
  refine H.region ?_
  refine Ops.quiet (Qt.move rfl) rfl ?_
  refine Ops.eff (Ef.call (fok fab_all rfl Tryz.func52 rfl) rfl (spec_mailbox w0 hG s hl _)) rfl ?_
  rintro _ c0 ⟨rfl, h0⟩; subst c0
  refine Ops.quiet (Qt.not rfl) rfl ?_
  refine Ops.quiet (Qt.assign rfl) rfl ?_
  refine Ops.nil ?_
  refine H.then_normal ?_
  refine H.ret ?_
  refine (H.ends rfl (.cons (.tmp rfl) .nil) ?_)
  exact ⟨rfl, rfl⟩
theorem spec_egood (w0 : World) (hG : Gl w0) (m : Mg) (a : Ma) (hb : MB m) (cs : List SProp) (hm : MR w0 cs m a) :
    Spec Tryz.prog w0 27 [m.v a] cs (fun v cs' => v = bol (goodM m) ∧ cs' = cs) := by
  obtain ⟨hr, hk, hd⟩ := hm
  refine Spec.of_body Tryz.func27 rfl Tryz.ntmps27 rfl ?_
  refine H.fact (fun w hw => (hr w hw).facts) fun ⟨rl1, rl2, rl3, rl4⟩ => ?_
  refine H.fact (fun w hw => (hk w hw).facts) fun ⟨ml1, ml2, ml3, ml4⟩ => ?_
  simp only [List.length_map] at rl1 ml1
  refine H.seq ?_
  refine H.region ?_
  refine Ops.eff (Ef.box rfl rfl) rfl ?_
  rintro _ _ ⟨b1, rfl, rfl⟩
  refine Ops.quiet (Qt.assign rfl) rfl ?_
  refine Ops.nil ?_
  refine H.then_normal ?_
  refine H.seq ?_
  refine H.region ?_
  refine Ops.quiet (Qt.fieldAddr rfl (tk rfl) rfl) rfl ?_
  refine Ops.quiet (Qt.load rfl (tk rfl) rfl (by repeat (first | exact List.Mem.head _ | apply List.Mem.tail)) (by rfl)) rfl ?_
  refine Ops.quiet (Qt.fieldAddr rfl (tk rfl) rfl) rfl ?_
  refine Ops.quiet (Qt.load rfl (tk rfl) rfl (by repeat (first | exact List.Mem.head _ | apply List.Mem.tail)) (by rfl)) rfl ?_
  refine Ops.quiet (Qt.fieldAddr rfl (tk rfl) rfl) rfl ?_
  refine Ops.quiet (Qt.load rfl (tk rfl) rfl (by repeat (first | exact List.Mem.head _ | apply List.Mem.tail)) (by rfl)) rfl ?_
  refine Ops.quiet (Qt.fieldAddr rfl (tk rfl) rfl) rfl ?_
  refine Ops.quiet (Qt.load rfl (tk rfl) rfl (by repeat (first | exact List.Mem.head _ | apply List.Mem.tail)) (by rfl)) rfl ?_
  refine Ops.quiet (Qt.fieldAddr rfl (tk rfl) rfl) rfl ?_
  refine Ops.quiet (Qt.load rfl (tk rfl) rfl (by repeat (first | exact List.Mem.head _ | apply List.Mem.tail)) (by rfl)) rfl ?_
  refine Ops.quiet (Qt.build_arr (tk rfl) (tk rfl) (zk rfl) rfl (by rfl)) rfl ?_
  refine Ops.eff (Ef.alloc (zk rfl)) rfl ?_
  rintro _ _ ⟨b3, rfl, rfl⟩
  refine Ops.eff (Ef.store rfl rfl (tk rfl) rfl rfl (by repeat (first | exact ones_nil | refine ones_cons rfl ?_)) (by repeat (first | exact Upd.head | apply Upd.tail)) (by rfl)) rfl ?_
  rintro _ _ rfl
  refine Ops.nil ?_
  refine H.then_normal ?_
  refine H.seq ?_
  refine H.region ?_
  refine Ops.quiet (Qt.assign rfl) rfl ?_
  refine Ops.nil ?_
  refine H.then_normal ?_
  refine H.seq ?_
  refine H.region ?_
  refine Ops.quiet (Qt.cast (Qt.slice_arr rfl (tk rfl) (tk rfl) rfl rfl (by omega) (by omega) (by omega)) (show _ = Value.slice (some ⟨b3, 0, none⟩) 5 5 from rfl)) rfl ?_
  refine Ops.eff (Ef.call (fok fab_all rfl Tryz.func49 rfl) rfl (spec_icontainsfunc (l := m.nums) (Reads_blk (by repeat (first | exact List.Mem.head _ | apply List.Mem.tail)) rfl rfl (by decide)) (fok fab_all rfl Tryz.func50 rfl) (fun x _ cs => spec_ntime w0 x cs))) rfl ?_
  rintro _ c0 ⟨rfl, h0⟩; subst c0
  refine Ops.quiet (Qt.not rfl) rfl ?_
  refine Ops.quiet (Qt.move rfl) rfl ?_
  refine Ops.guard rfl rfl rfl rfl (fun g19 => ?_) (fun g19 => ?_)
  · have g19' := g19
    try simp only [decide_eq_true_eq, decide_eq_false_iff_not, beq_iff_eq, beq_eq_false_iff_ne, bne_iff_ne, ne_eq, Bool.not_eq_true', Bool.not_eq_false', bne_eq_false_iff_eq, Bool.not_eq_eq_eq_not, Bool.not_true, Bool.not_false] at g19'
    refine Ops.quiet (Qt.fieldAddr rfl (tk rfl) rfl) rfl ?_
    refine Ops.guard_yes rfl rfl rfl rfl g19 ?_
    refine Ops.quiet (Qt.load rfl (tk rfl) rfl (by repeat (first | exact List.Mem.head _ | apply List.Mem.tail)) (by rfl)) rfl ?_
    refine Ops.guard_yes rfl rfl rfl rfl g19 ?_
    refine Ops.quiet (Qt.seq rfl rfl) rfl ?_
    refine Ops.guard_yes rfl rfl rfl rfl g19 ?_
    refine Ops.quiet (Qt.move rfl) rfl ?_
    refine Ops.guard rfl rfl rfl rfl (fun g23 => ?_) (fun g23 => ?_)
    · have g23' := g23
      try simp only [decide_eq_true_eq, decide_eq_false_iff_not, beq_iff_eq, beq_eq_false_iff_ne, bne_iff_ne, ne_eq, Bool.not_eq_true', Bool.not_eq_false', bne_eq_false_iff_eq, Bool.not_eq_eq_eq_not, Bool.not_true, Bool.not_false] at g23'
      refine Ops.quiet (Qt.fieldAddr rfl (tk rfl) rfl) rfl ?_
      refine Ops.guard_yes rfl rfl rfl rfl g23 ?_
      refine Ops.quiet (Qt.load rfl (tk rfl) rfl (by repeat (first | exact List.Mem.head _ | apply List.Mem.tail)) (by rfl)) rfl ?_
      refine Ops.guard_yes rfl rfl rfl rfl g23 ?_
      refine Ops.eff (Ef.call (fok fab_all rfl Tryz.func52 rfl) rfl (spec_mailbox w0 hG m.frm (by have := hb.f; omega) _)) rfl ?_
      rintro _ c0 ⟨rfl, h0⟩; subst c0
      refine Ops.guard_yes rfl rfl rfl rfl g19 ?_
      refine Ops.quiet (Qt.pick_f rfl rfl g23) rfl ?_
      refine Ops.quiet (Qt.pick_t rfl rfl g19) rfl ?_
      refine Ops.quiet (Qt.move rfl) rfl ?_
      refine Ops.guard rfl rfl rfl rfl (fun g29 => ?_) (fun g29 => ?_)
      · have g29' := g29
        try simp only [decide_eq_true_eq, decide_eq_false_iff_not, beq_iff_eq, beq_eq_false_iff_ne, bne_iff_ne, ne_eq, Bool.not_eq_true', Bool.not_eq_false', bne_eq_false_iff_eq, Bool.not_eq_eq_eq_not, Bool.not_true, Bool.not_false] at g29'
        refine Ops.quiet (Qt.fieldAddr rfl (tk rfl) rfl) rfl ?_
        refine Ops.guard_yes rfl rfl rfl rfl g29 ?_
        refine Ops.quiet (Qt.load rfl (tk rfl) rfl (by repeat (first | exact List.Mem.head _ | apply List.Mem.tail)) (by rfl)) rfl ?_
        refine Ops.guard_yes rfl rfl rfl rfl g29 ?_
        refine Ops.quiet (Qt.len_sl (ats := #[]) rfl (tk rfl)) rfl ?_
        refine Ops.guard_yes rfl rfl rfl rfl g29 ?_
        refine Ops.quiet (Qt.geq rfl rfl) rfl ?_
        refine Ops.quiet (Qt.pick_t rfl rfl g29) rfl ?_
        refine Ops.quiet (Qt.move rfl) rfl ?_
        refine Ops.guard rfl rfl rfl rfl (fun g35 => ?_) (fun g35 => ?_)
        · have g35' := g35
          try simp only [decide_eq_true_eq, decide_eq_false_iff_not, beq_iff_eq, beq_eq_false_iff_ne, bne_iff_ne, ne_eq, Bool.not_eq_true', Bool.not_eq_false', bne_eq_false_iff_eq, Bool.not_eq_eq_eq_not, Bool.not_true, Bool.not_false] at g35'
          refine Ops.quiet (Qt.fieldAddr rfl (tk rfl) rfl) rfl ?_
          refine Ops.guard_yes rfl rfl rfl rfl g35 ?_
          refine Ops.quiet (Qt.load rfl (tk rfl) rfl (by repeat (first | exact List.Mem.head _ | apply List.Mem.tail)) (by rfl)) rfl ?_
          refine Ops.guard_yes rfl rfl rfl rfl g35 ?_
          refine Ops.quiet (Qt.len_sl (ats := #[]) rfl (tk rfl)) rfl ?_
          refine Ops.guard_yes rfl rfl rfl rfl g35 ?_
          refine Ops.quiet (Qt.leq rfl rfl) rfl ?_
          refine Ops.quiet (Qt.pick_t rfl rfl g35) rfl ?_
          refine Ops.quiet (Qt.move rfl) rfl ?_
          refine Ops.guard rfl rfl rfl rfl (fun g41 => ?_) (fun g41 => ?_)
          · have g41' := g41
            try simp only [decide_eq_true_eq, decide_eq_false_iff_not, beq_iff_eq, beq_eq_false_iff_ne, bne_iff_ne, ne_eq, Bool.not_eq_true', Bool.not_eq_false', bne_eq_false_iff_eq, Bool.not_eq_eq_eq_not, Bool.not_true, Bool.not_false] at g41'
            refine Ops.quiet (Qt.fieldAddr rfl (tk rfl) rfl) rfl ?_
            refine Ops.guard_yes rfl rfl rfl rfl g41 ?_
            refine Ops.quiet (Qt.load rfl (tk rfl) rfl (by repeat (first | exact List.Mem.head _ | apply List.Mem.tail)) (by rfl)) rfl ?_
            refine Ops.guard_yes rfl rfl rfl rfl g41 ?_
            refine Ops.eff (Ef.call (fok fab_all rfl Tryz.func53 rfl) rfl (spec_scontainsfunc (l := m.rcpts) (by repeat (first | assumption | exact Reads.of_head | apply Reads.tail)) (fok fab_all rfl Tryz.func54 rfl) (fun x hx cs => spec_nmbox w0 hG x (by have := hb.r x hx; omega) cs))) rfl ?_
            rintro _ c0 ⟨rfl, h0⟩; subst c0
            refine Ops.guard_yes rfl rfl rfl rfl g41 ?_
            refine Ops.quiet (Qt.not rfl) rfl ?_
            refine Ops.quiet (Qt.pick_t rfl rfl g41) rfl ?_
            refine Ops.quiet (Qt.move rfl) rfl ?_
            refine Ops.guard rfl rfl rfl rfl (fun g47 => ?_) (fun g47 => ?_)
            · have g47' := g47
              try simp only [decide_eq_true_eq, decide_eq_false_iff_not, beq_iff_eq, beq_eq_false_iff_ne, bne_iff_ne, ne_eq, Bool.not_eq_true', Bool.not_eq_false', bne_eq_false_iff_eq, Bool.not_eq_eq_eq_not, Bool.not_true, Bool.not_false] at g47'
              refine Ops.quiet (Qt.fieldAddr rfl (tk rfl) rfl) rfl ?_
              refine Ops.guard_yes rfl rfl rfl rfl g47 ?_
              refine Ops.quiet (Qt.load rfl (tk rfl) rfl (by repeat (first | exact List.Mem.head _ | apply List.Mem.tail)) (by rfl)) rfl ?_
              refine Ops.guard_yes rfl rfl rfl rfl g47 ?_
              refine Ops.quiet (Qt.len_sl (ats := #[]) rfl (tk rfl)) rfl ?_
              refine Ops.guard_yes rfl rfl rfl rfl g47 ?_
              refine Ops.quiet (Qt.leq rfl rfl) rfl ?_
              refine Ops.quiet (Qt.pick_t rfl rfl g47) rfl ?_
              refine Ops.quiet (Qt.move rfl) rfl ?_
              refine Ops.guard rfl rfl rfl rfl (fun g53 => ?_) (fun g53 => ?_)
              · have g53' := g53
                try simp only [decide_eq_true_eq, decide_eq_false_iff_not, beq_iff_eq, beq_eq_false_iff_ne, bne_iff_ne, ne_eq, Bool.not_eq_true', Bool.not_eq_false', bne_eq_false_iff_eq, Bool.not_eq_eq_eq_not, Bool.not_true, Bool.not_false] at g53'
                refine Ops.quiet (Qt.fieldAddr rfl (tk rfl) rfl) rfl ?_
                refine Ops.guard_yes rfl rfl rfl rfl g53 ?_
                refine Ops.quiet (Qt.load rfl (tk rfl) rfl (by repeat (first | exact List.Mem.head _ | apply List.Mem.tail)) (by rfl)) rfl ?_
                refine Ops.guard_yes rfl rfl rfl rfl g53 ?_
                refine Ops.quiet (Qt.move rfl) rfl ?_
                refine Ops.guard_yes rfl rfl rfl rfl g53 ?_
                refine Ops.eff (Ef.call (fok fab_all rfl Tryz.func49 rfl) rfl (spec_icontainsfunc (l := m.marks) (by repeat (first | assumption | exact Reads.of_head | apply Reads.tail)) (fok fab_all rfl Tryz.func48 rfl) (fun x _ cs => spec_odd w0 x cs))) rfl ?_
                rintro _ c0 ⟨rfl, h0⟩; subst c0
                refine Ops.guard_yes rfl rfl rfl rfl g53 ?_
                refine Ops.quiet (Qt.not rfl) rfl ?_
                refine Ops.quiet (Qt.pick_t rfl rfl g53) rfl ?_
                refine Ops.quiet (Qt.move rfl) rfl ?_
                refine Ops.guard rfl rfl rfl rfl (fun g60 => ?_) (fun g60 => ?_)
                · have g60' := g60
                  try simp only [decide_eq_true_eq, decide_eq_false_iff_not, beq_iff_eq, beq_eq_false_iff_ne, bne_iff_ne, ne_eq, Bool.not_eq_true', Bool.not_eq_false', bne_eq_false_iff_eq, Bool.not_eq_eq_eq_not, Bool.not_true, Bool.not_false] at g60'
                  refine Ops.quiet (Qt.fieldAddr rfl (tk rfl) rfl) rfl ?_
                  refine Ops.guard_yes rfl rfl rfl rfl g60 ?_
                  refine Ops.quiet (Qt.load rfl (tk rfl) rfl (by repeat (first | exact List.Mem.head _ | apply List.Mem.tail)) (by rfl)) rfl ?_
                  refine Ops.guard_yes rfl rfl rfl rfl g60 ?_
                  refine Ops.eff (Ef.call (fok fab_all rfl Tryz.func55 rfl) rfl (spec_dgood w0 m.body _ (by repeat (first | assumption | exact Reads.of_head | apply Reads.tail)) (by have := hb.bn; omega))) rfl ?_
                  rintro _ c0 ⟨rfl, h0⟩; subst c0
                  refine Ops.quiet (Qt.pick_t rfl rfl g60) rfl ?_
                  refine Ops.quiet (Qt.assign rfl) rfl ?_
                  refine Ops.nil ?_
                  refine H.then_normal ?_
                  refine H.ret ?_
                  refine (H.ends_to (cs' := cs) rfl (.cons (.tmp rfl) .nil) (fun w hw => ?_) ?_)
                  · exact hw.sub (by repeat (first | exact List.Sublist.refl _ | exact List.nil_sublist _ | apply List.Sublist.cons_cons | apply List.Sublist.cons))
                  · refine ⟨congrArg bol ?_, rfl⟩
                    simp [goodM, rl1, ml1, *]
                · have g60' := g60
                  try simp only [decide_eq_true_eq, decide_eq_false_iff_not, beq_iff_eq, beq_eq_false_iff_ne, bne_iff_ne, ne_eq, Bool.not_eq_true', Bool.not_eq_false', bne_eq_false_iff_eq, Bool.not_eq_eq_eq_not, Bool.not_true, Bool.not_false] at g60'
                  refine Ops.guard_no rfl rfl rfl rfl g60 ?_
                  refine Ops.guard_no rfl rfl rfl rfl g60 ?_
                  refine Ops.quiet (Qt.pick_f rfl rfl g60) rfl ?_
                  refine Ops.quiet (Qt.assign rfl) rfl ?_
                  refine Ops.nil ?_
                  refine H.then_normal ?_
                  refine H.ret ?_
                  refine (H.ends_to (cs' := cs) rfl (.cons (.tmp rfl) .nil) (fun w hw => ?_) ?_)
                  · exact hw.sub (by repeat (first | exact List.Sublist.refl _ | exact List.nil_sublist _ | apply List.Sublist.cons_cons | apply List.Sublist.cons))
                  · refine ⟨congrArg bol ?_, rfl⟩
                    simp [goodM, rl1, ml1, *]
              · have g53' := g53
                try simp only [decide_eq_true_eq, decide_eq_false_iff_not, beq_iff_eq, beq_eq_false_iff_ne, bne_iff_ne, ne_eq, Bool.not_eq_true', Bool.not_eq_false', bne_eq_false_iff_eq, Bool.not_eq_eq_eq_not, Bool.not_true, Bool.not_false] at g53'
                refine Ops.guard_no rfl rfl rfl rfl g53 ?_
                refine Ops.guard_no rfl rfl rfl rfl g53 ?_
                refine Ops.guard_no rfl rfl rfl rfl g53 ?_
                refine Ops.guard_no rfl rfl rfl rfl g53 ?_
                refine Ops.quiet (Qt.pick_f rfl rfl g53) rfl ?_
                refine Ops.quiet (Qt.move rfl) rfl ?_
                refine Ops.guard_no rfl rfl rfl rfl rfl ?_
                refine Ops.guard_no rfl rfl rfl rfl rfl ?_
                refine Ops.guard_no rfl rfl rfl rfl rfl ?_
                refine Ops.quiet (Qt.pick_f rfl rfl rfl) rfl ?_
                refine Ops.quiet (Qt.assign rfl) rfl ?_
                refine Ops.nil ?_
                refine H.then_normal ?_
                refine H.ret ?_
                refine (H.ends_to (cs' := cs) rfl (.cons (.tmp rfl) .nil) (fun w hw => ?_) ?_)
                · exact hw.sub (by repeat (first | exact List.Sublist.refl _ | exact List.nil_sublist _ | apply List.Sublist.cons_cons | apply List.Sublist.cons))
                · refine ⟨congrArg bol ?_, rfl⟩
                  simp [goodM, rl1, ml1, *]
            · have g47' := g47
              try simp only [decide_eq_true_eq, decide_eq_false_iff_not, beq_iff_eq, beq_eq_false_iff_ne, bne_iff_ne, ne_eq, Bool.not_eq_true', Bool.not_eq_false', bne_eq_false_iff_eq, Bool.not_eq_eq_eq_not, Bool.not_true, Bool.not_false] at g47'
              refine Ops.guard_no rfl rfl rfl rfl g47 ?_
              refine Ops.guard_no rfl rfl rfl rfl g47 ?_
              refine Ops.guard_no rfl rfl rfl rfl g47 ?_
              refine Ops.quiet (Qt.pick_f rfl rfl g47) rfl ?_
              refine Ops.quiet (Qt.move rfl) rfl ?_
              refine Ops.guard_no rfl rfl rfl rfl rfl ?_
              refine Ops.guard_no rfl rfl rfl rfl rfl ?_
              refine Ops.guard_no rfl rfl rfl rfl rfl ?_
              refine Ops.guard_no rfl rfl rfl rfl rfl ?_
              refine Ops.guard_no rfl rfl rfl rfl rfl ?_
              refine Ops.quiet (Qt.pick_f rfl rfl rfl) rfl ?_
              refine Ops.quiet (Qt.move rfl) rfl ?_
              refine Ops.guard_no rfl rfl rfl rfl rfl ?_
              refine Ops.guard_no rfl rfl rfl rfl rfl ?_
              refine Ops.guard_no rfl rfl rfl rfl rfl ?_
              refine Ops.quiet (Qt.pick_f rfl rfl rfl) rfl ?_
              refine Ops.quiet (Qt.assign rfl) rfl ?_
              refine Ops.nil ?_
              refine H.then_normal ?_
              refine H.ret ?_
              refine (H.ends_to (cs' := cs) rfl (.cons (.tmp rfl) .nil) (fun w hw => ?_) ?_)
              · exact hw.sub (by repeat (first | exact List.Sublist.refl _ | exact List.nil_sublist _ | apply List.Sublist.cons_cons | apply List.Sublist.cons))
              · refine ⟨congrArg bol ?_, rfl⟩
                simp [goodM, rl1, ml1, *]
          · have g41' := g41
            try simp only [decide_eq_true_eq, decide_eq_false_iff_not, beq_iff_eq, beq_eq_false_iff_ne, bne_iff_ne, ne_eq, Bool.not_eq_true', Bool.not_eq_false', bne_eq_false_iff_eq, Bool.not_eq_eq_eq_not, Bool.not_true, Bool.not_false] at g41'
            refine Ops.guard_no rfl rfl rfl rfl g41 ?_
            refine Ops.guard_no rfl rfl rfl rfl g41 ?_
            refine Ops.guard_no rfl rfl rfl rfl g41 ?_
            refine Ops.quiet (Qt.pick_f rfl rfl g41) rfl ?_
            refine Ops.quiet (Qt.move rfl) rfl ?_
            refine Ops.guard_no rfl rfl rfl rfl rfl ?_
            refine Ops.guard_no rfl rfl rfl rfl rfl ?_
            refine Ops.guard_no rfl rfl rfl rfl rfl ?_
            refine Ops.guard_no rfl rfl rfl rfl rfl ?_
            refine Ops.quiet (Qt.pick_f rfl rfl rfl) rfl ?_
            refine Ops.quiet (Qt.move rfl) rfl ?_
            refine Ops.guard_no rfl rfl rfl rfl rfl ?_
            refine Ops.guard_no rfl rfl rfl rfl rfl ?_
            refine Ops.guard_no rfl rfl rfl rfl rfl ?_
            refine Ops.guard_no rfl rfl rfl rfl rfl ?_
            refine Ops.guard_no rfl rfl rfl rfl rfl ?_
            refine Ops.quiet (Qt.pick_f rfl rfl rfl) rfl ?_
            refine Ops.quiet (Qt.move rfl) rfl ?_
            refine Ops.guard_no rfl rfl rfl rfl rfl ?_
            refine Ops.guard_no rfl rfl rfl rfl rfl ?_
            refine Ops.guard_no rfl rfl rfl rfl rfl ?_
            refine Ops.quiet (Qt.pick_f rfl rfl rfl) rfl ?_
            refine Ops.quiet (Qt.assign rfl) rfl ?_
            refine Ops.nil ?_
            refine H.then_normal ?_
            refine H.ret ?_
            refine (H.ends_to (cs' := cs) rfl (.cons (.tmp rfl) .nil) (fun w hw => ?_) ?_)
            · exact hw.sub (by repeat (first | exact List.Sublist.refl _ | exact List.nil_sublist _ | apply List.Sublist.cons_cons | apply List.Sublist.cons))
            · refine ⟨congrArg bol ?_, rfl⟩
              simp [goodM, rl1, ml1, *]
        · have g35' := g35
          try simp only [decide_eq_true_eq, decide_eq_false_iff_not, beq_iff_eq, beq_eq_false_iff_ne, bne_iff_ne, ne_eq, Bool.not_eq_true', Bool.not_eq_false', bne_eq_false_iff_eq, Bool.not_eq_eq_eq_not, Bool.not_true, Bool.not_false] at g35'
          refine Ops.guard_no rfl rfl rfl rfl g35 ?_
          refine Ops.guard_no rfl rfl rfl rfl g35 ?_
          refine Ops.guard_no rfl rfl rfl rfl g35 ?_
          refine Ops.quiet (Qt.pick_f rfl rfl g35) rfl ?_
          refine Ops.quiet (Qt.move rfl) rfl ?_
          refine Ops.guard_no rfl rfl rfl rfl rfl ?_
          refine Ops.guard_no rfl rfl rfl rfl rfl ?_
          refine Ops.guard_no rfl rfl rfl rfl rfl ?_
          refine Ops.guard_no rfl rfl rfl rfl rfl ?_
          refine Ops.quiet (Qt.pick_f rfl rfl rfl) rfl ?_
          refine Ops.quiet (Qt.move rfl) rfl ?_
          refine Ops.guard_no rfl rfl rfl rfl rfl ?_
          refine Ops.guard_no rfl rfl rfl rfl rfl ?_
          refine Ops.guard_no rfl rfl rfl rfl rfl ?_
          refine Ops.guard_no rfl rfl rfl rfl rfl ?_
          refine Ops.quiet (Qt.pick_f rfl rfl rfl) rfl ?_
          refine Ops.quiet (Qt.move rfl) rfl ?_
          refine Ops.guard_no rfl rfl rfl rfl rfl ?_
          refine Ops.guard_no rfl rfl rfl rfl rfl ?_
          refine Ops.guard_no rfl rfl rfl rfl rfl ?_
          refine Ops.guard_no rfl rfl rfl rfl rfl ?_
          refine Ops.guard_no rfl rfl rfl rfl rfl ?_
          refine Ops.quiet (Qt.pick_f rfl rfl rfl) rfl ?_
          refine Ops.quiet (Qt.move rfl) rfl ?_
          refine Ops.guard_no rfl rfl rfl rfl rfl ?_
          refine Ops.guard_no rfl rfl rfl rfl rfl ?_
          refine Ops.guard_no rfl rfl rfl rfl rfl ?_
          refine Ops.quiet (Qt.pick_f rfl rfl rfl) rfl ?_
          refine Ops.quiet (Qt.assign rfl) rfl ?_
          refine Ops.nil ?_
          refine H.then_normal ?_
          refine H.ret ?_
          refine (H.ends_to (cs' := cs) rfl (.cons (.tmp rfl) .nil) (fun w hw => ?_) ?_)
          · exact hw.sub (by repeat (first | exact List.Sublist.refl _ | exact List.nil_sublist _ | apply List.Sublist.cons_cons | apply List.Sublist.cons))
          · refine ⟨congrArg bol ?_, rfl⟩
            simp [goodM, rl1, ml1, *]
      · have g29' := g29
        try simp only [decide_eq_true_eq, decide_eq_false_iff_not, beq_iff_eq, beq_eq_false_iff_ne, bne_iff_ne, ne_eq, Bool.not_eq_true', Bool.not_eq_false', bne_eq_false_iff_eq, Bool.not_eq_eq_eq_not, Bool.not_true, Bool.not_false] at g29'
        refine Ops.guard_no rfl rfl rfl rfl g29 ?_
        refine Ops.guard_no rfl rfl rfl rfl g29 ?_
        refine Ops.guard_no rfl rfl rfl rfl g29 ?_
        refine Ops.quiet (Qt.pick_f rfl rfl g29) rfl ?_
        refine Ops.quiet (Qt.move rfl) rfl ?_
        refine Ops.guard_no rfl rfl rfl rfl rfl ?_
        refine Ops.guard_no rfl rfl rfl rfl rfl ?_
        refine Ops.guard_no rfl rfl rfl rfl rfl ?_
        refine Ops.guard_no rfl rfl rfl rfl rfl ?_
        refine Ops.quiet (Qt.pick_f rfl rfl rfl) rfl ?_
        refine Ops.quiet (Qt.move rfl) rfl ?_
        refine Ops.guard_no rfl rfl rfl rfl rfl ?_
        refine Ops.guard_no rfl rfl rfl rfl rfl ?_
        refine Ops.guard_no rfl rfl rfl rfl rfl ?_
        refine Ops.guard_no rfl rfl rfl rfl rfl ?_
        refine Ops.quiet (Qt.pick_f rfl rfl rfl) rfl ?_
        refine Ops.quiet (Qt.move rfl) rfl ?_
        refine Ops.guard_no rfl rfl rfl rfl rfl ?_
        refine Ops.guard_no rfl rfl rfl rfl rfl ?_
        refine Ops.guard_no rfl rfl rfl rfl rfl ?_
        refine Ops.guard_no rfl rfl rfl rfl rfl ?_
        refine Ops.quiet (Qt.pick_f rfl rfl rfl) rfl ?_
        refine Ops.quiet (Qt.move rfl) rfl ?_
        refine Ops.guard_no rfl rfl rfl rfl rfl ?_
        refine Ops.guard_no rfl rfl rfl rfl rfl ?_
        refine Ops.guard_no rfl rfl rfl rfl rfl ?_
        refine Ops.guard_no rfl rfl rfl rfl rfl ?_
        refine Ops.guard_no rfl rfl rfl rfl rfl ?_
        refine Ops.quiet (Qt.pick_f rfl rfl rfl) rfl ?_
        refine Ops.quiet (Qt.move rfl) rfl ?_
        refine Ops.guard_no rfl rfl rfl rfl rfl ?_
        refine Ops.guard_no rfl rfl rfl rfl rfl ?_
        refine Ops.guard_no rfl rfl rfl rfl rfl ?_
        refine Ops.quiet (Qt.pick_f rfl rfl rfl) rfl ?_
        refine Ops.quiet (Qt.assign rfl) rfl ?_
        refine Ops.nil ?_
        refine H.then_normal ?_
        refine H.ret ?_
        refine (H.ends_to (cs' := cs) rfl (.cons (.tmp rfl) .nil) (fun w hw => ?_) ?_)
        · exact hw.sub (by repeat (first | exact List.Sublist.refl _ | exact List.nil_sublist _ | apply List.Sublist.cons_cons | apply List.Sublist.cons))
        · refine ⟨congrArg bol ?_, rfl⟩
          simp [goodM, rl1, ml1, *]
    · have g23' := g23
      try simp only [decide_eq_true_eq, decide_eq_false_iff_not, beq_iff_eq, beq_eq_false_iff_ne, bne_iff_ne, ne_eq, Bool.not_eq_true', Bool.not_eq_false', bne_eq_false_iff_eq, Bool.not_eq_eq_eq_not, Bool.not_true, Bool.not_false] at g23'
      refine Ops.guard_no rfl rfl rfl rfl g23 ?_
      refine Ops.guard_no rfl rfl rfl rfl g23 ?_
      refine Ops.guard_yes rfl rfl rfl rfl g19 ?_
      refine Ops.quiet (Qt.pick_t rfl rfl g23) rfl ?_
      refine Ops.quiet (Qt.pick_t rfl rfl g19) rfl ?_
      refine Ops.quiet (Qt.move rfl) rfl ?_
      refine Ops.guard_yes rfl rfl rfl rfl rfl ?_
      refine Ops.quiet (Qt.fieldAddr rfl (tk rfl) rfl) rfl ?_
      refine Ops.guard_yes rfl rfl rfl rfl rfl ?_
      refine Ops.quiet (Qt.load rfl (tk rfl) rfl (by repeat (first | exact List.Mem.head _ | apply List.Mem.tail)) (by rfl)) rfl ?_
      refine Ops.guard_yes rfl rfl rfl rfl rfl ?_
      refine Ops.quiet (Qt.len_sl (ats := #[]) rfl (tk rfl)) rfl ?_
      refine Ops.guard_yes rfl rfl rfl rfl rfl ?_
      refine Ops.quiet (Qt.geq rfl rfl) rfl ?_
      refine Ops.quiet (Qt.pick_t rfl rfl rfl) rfl ?_
      refine Ops.quiet (Qt.move rfl) rfl ?_
      refine Ops.guard rfl rfl rfl rfl (fun g35 => ?_) (fun g35 => ?_)
      · have g35' := g35
        try simp only [decide_eq_true_eq, decide_eq_false_iff_not, beq_iff_eq, beq_eq_false_iff_ne, bne_iff_ne, ne_eq, Bool.not_eq_true', Bool.not_eq_false', bne_eq_false_iff_eq, Bool.not_eq_eq_eq_not, Bool.not_true, Bool.not_false] at g35'
        refine Ops.quiet (Qt.fieldAddr rfl (tk rfl) rfl) rfl ?_
        refine Ops.guard_yes rfl rfl rfl rfl g35 ?_
        refine Ops.quiet (Qt.load rfl (tk rfl) rfl (by repeat (first | exact List.Mem.head _ | apply List.Mem.tail)) (by rfl)) rfl ?_
        refine Ops.guard_yes rfl rfl rfl rfl g35 ?_
        refine Ops.quiet (Qt.len_sl (ats := #[]) rfl (tk rfl)) rfl ?_
        refine Ops.guard_yes rfl rfl rfl rfl g35 ?_
        refine Ops.quiet (Qt.leq rfl rfl) rfl ?_
        refine Ops.quiet (Qt.pick_t rfl rfl g35) rfl ?_
        refine Ops.quiet (Qt.move rfl) rfl ?_
        refine Ops.guard rfl rfl rfl rfl (fun g41 => ?_) (fun g41 => ?_)
        · have g41' := g41
          try simp only [decide_eq_true_eq, decide_eq_false_iff_not, beq_iff_eq, beq_eq_false_iff_ne, bne_iff_ne, ne_eq, Bool.not_eq_true', Bool.not_eq_false', bne_eq_false_iff_eq, Bool.not_eq_eq_eq_not, Bool.not_true, Bool.not_false] at g41'
          refine Ops.quiet (Qt.fieldAddr rfl (tk rfl) rfl) rfl ?_
          refine Ops.guard_yes rfl rfl rfl rfl g41 ?_
          refine Ops.quiet (Qt.load rfl (tk rfl) rfl (by repeat (first | exact List.Mem.head _ | apply List.Mem.tail)) (by rfl)) rfl ?_
          refine Ops.guard_yes rfl rfl rfl rfl g41 ?_
          refine Ops.eff (Ef.call (fok fab_all rfl Tryz.func53 rfl) rfl (spec_scontainsfunc (l := m.rcpts) (by repeat (first | assumption | exact Reads.of_head | apply Reads.tail)) (fok fab_all rfl Tryz.func54 rfl) (fun x hx cs => spec_nmbox w0 hG x (by have := hb.r x hx; omega) cs))) rfl ?_
          rintro _ c0 ⟨rfl, h0⟩; subst c0
          refine Ops.guard_yes rfl rfl rfl rfl g41 ?_
          refine Ops.quiet (Qt.not rfl) rfl ?_
          refine Ops.quiet (Qt.pick_t rfl rfl g41) rfl ?_
          refine Ops.quiet (Qt.move rfl) rfl ?_
          refine Ops.guard rfl rfl rfl rfl (fun g47 => ?_) (fun g47 => ?_)
          · have g47' := g47
            try simp only [decide_eq_true_eq, decide_eq_false_iff_not, beq_iff_eq, beq_eq_false_iff_ne, bne_iff_ne, ne_eq, Bool.not_eq_true', Bool.not_eq_false', bne_eq_false_iff_eq, Bool.not_eq_eq_eq_not, Bool.not_true, Bool.not_false] at g47'
            refine Ops.quiet (Qt.fieldAddr rfl (tk rfl) rfl) rfl ?_
            refine Ops.guard_yes rfl rfl rfl rfl g47 ?_
            refine Ops.quiet (Qt.load rfl (tk rfl) rfl (by repeat (first | exact List.Mem.head _ | apply List.Mem.tail)) (by rfl)) rfl ?_
            refine Ops.guard_yes rfl rfl rfl rfl g47 ?_
            refine Ops.quiet (Qt.len_sl (ats := #[]) rfl (tk rfl)) rfl ?_
            refine Ops.guard_yes rfl rfl rfl rfl g47 ?_
            refine Ops.quiet (Qt.leq rfl rfl) rfl ?_
            refine Ops.quiet (Qt.pick_t rfl rfl g47) rfl ?_
            refine Ops.quiet (Qt.move rfl) rfl ?_
            refine Ops.guard rfl rfl rfl rfl (fun g53 => ?_) (fun g53 => ?_)
            · have g53' := g53
              try simp only [decide_eq_true_eq, decide_eq_false_iff_not, beq_iff_eq, beq_eq_false_iff_ne, bne_iff_ne, ne_eq, Bool.not_eq_true', Bool.not_eq_false', bne_eq_false_iff_eq, Bool.not_eq_eq_eq_not, Bool.not_true, Bool.not_false] at g53'
              refine Ops.quiet (Qt.fieldAddr rfl (tk rfl) rfl) rfl ?_
              refine Ops.guard_yes rfl rfl rfl rfl g53 ?_
              refine Ops.quiet (Qt.load rfl (tk rfl) rfl (by repeat (first | exact List.Mem.head _ | apply List.Mem.tail)) (by rfl)) rfl ?_
              refine Ops.guard_yes rfl rfl rfl rfl g53 ?_
              refine Ops.quiet (Qt.move rfl) rfl ?_
              refine Ops.guard_yes rfl rfl rfl rfl g53 ?_
              refine Ops.eff (Ef.call (fok fab_all rfl Tryz.func49 rfl) rfl (spec_icontainsfunc (l := m.marks) (by repeat (first | assumption | exact Reads.of_head | apply Reads.tail)) (fok fab_all rfl Tryz.func48 rfl) (fun x _ cs => spec_odd w0 x cs))) rfl ?_
              rintro _ c0 ⟨rfl, h0⟩; subst c0
              refine Ops.guard_yes rfl rfl rfl rfl g53 ?_
              refine Ops.quiet (Qt.not rfl) rfl ?_
              refine Ops.quiet (Qt.pick_t rfl rfl g53) rfl ?_
              refine Ops.quiet (Qt.move rfl) rfl ?_
              refine Ops.guard rfl rfl rfl rfl (fun g60 => ?_) (fun g60 => ?_)
              · have g60' := g60
                try simp only [decide_eq_true_eq, decide_eq_false_iff_not, beq_iff_eq, beq_eq_false_iff_ne, bne_iff_ne, ne_eq, Bool.not_eq_true', Bool.not_eq_false', bne_eq_false_iff_eq, Bool.not_eq_eq_eq_not, Bool.not_true, Bool.not_false] at g60'
                refine Ops.quiet (Qt.fieldAddr rfl (tk rfl) rfl) rfl ?_
                refine Ops.guard_yes rfl rfl rfl rfl g60 ?_
                refine Ops.quiet (Qt.load rfl (tk rfl) rfl (by repeat (first | exact List.Mem.head _ | apply List.Mem.tail)) (by rfl)) rfl ?_
                refine Ops.guard_yes rfl rfl rfl rfl g60 ?_
                refine Ops.eff (Ef.call (fok fab_all rfl Tryz.func55 rfl) rfl (spec_dgood w0 m.body _ (by repeat (first | assumption | exact Reads.of_head | apply Reads.tail)) (by have := hb.bn; omega))) rfl ?_
                rintro _ c0 ⟨rfl, h0⟩; subst c0
                refine Ops.quiet (Qt.pick_t rfl rfl g60) rfl ?_
                refine Ops.quiet (Qt.assign rfl) rfl ?_
                refine Ops.nil ?_
                refine H.then_normal ?_
                refine H.ret ?_
                refine (H.ends_to (cs' := cs) rfl (.cons (.tmp rfl) .nil) (fun w hw => ?_) ?_)
                · exact hw.sub (by repeat (first | exact List.Sublist.refl _ | exact List.nil_sublist _ | apply List.Sublist.cons_cons | apply List.Sublist.cons))
                · refine ⟨congrArg bol ?_, rfl⟩
                  simp [goodM, rl1, ml1, *]
              · have g60' := g60
                try simp only [decide_eq_true_eq, decide_eq_false_iff_not, beq_iff_eq, beq_eq_false_iff_ne, bne_iff_ne, ne_eq, Bool.not_eq_true', Bool.not_eq_false', bne_eq_false_iff_eq, Bool.not_eq_eq_eq_not, Bool.not_true, Bool.not_false] at g60'
                refine Ops.guard_no rfl rfl rfl rfl g60 ?_
                refine Ops.guard_no rfl rfl rfl rfl g60 ?_
                refine Ops.quiet (Qt.pick_f rfl rfl g60) rfl ?_
                refine Ops.quiet (Qt.assign rfl) rfl ?_
                refine Ops.nil ?_
                refine H.then_normal ?_
                refine H.ret ?_
                refine (H.ends_to (cs' := cs) rfl (.cons (.tmp rfl) .nil) (fun w hw => ?_) ?_)
                · exact hw.sub (by repeat (first | exact List.Sublist.refl _ | exact List.nil_sublist _ | apply List.Sublist.cons_cons | apply List.Sublist.cons))
                · refine ⟨congrArg bol ?_, rfl⟩
                  simp [goodM, rl1, ml1, *]
            · have g53' := g53
              try simp only [decide_eq_true_eq, decide_eq_false_iff_not, beq_iff_eq, beq_eq_false_iff_ne, bne_iff_ne, ne_eq, Bool.not_eq_true', Bool.not_eq_false', bne_eq_false_iff_eq, Bool.not_eq_eq_eq_not, Bool.not_true, Bool.not_false] at g53'
              refine Ops.guard_no rfl rfl rfl rfl g53 ?_
              refine Ops.guard_no rfl rfl rfl rfl g53 ?_
              refine Ops.guard_no rfl rfl rfl rfl g53 ?_
              refine Ops.guard_no rfl rfl rfl rfl g53 ?_
              refine Ops.quiet (Qt.pick_f rfl rfl g53) rfl ?_
              refine Ops.quiet (Qt.move rfl) rfl ?_
              refine Ops.guard_no rfl rfl rfl rfl rfl ?_
              refine Ops.guard_no rfl rfl rfl rfl rfl ?_
              refine Ops.guard_no rfl rfl rfl rfl rfl ?_
              refine Ops.quiet (Qt.pick_f rfl rfl rfl) rfl ?_
              refine Ops.quiet (Qt.assign rfl) rfl ?_
              refine Ops.nil ?_
              refine H.then_normal ?_
              refine H.ret ?_
              refine (H.ends_to (cs' := cs) rfl (.cons (.tmp rfl) .nil) (fun w hw => ?_) ?_)
              · exact hw.sub (by repeat (first | exact List.Sublist.refl _ | exact List.nil_sublist _ | apply List.Sublist.cons_cons | apply List.Sublist.cons))
              · refine ⟨congrArg bol ?_, rfl⟩
                simp [goodM, rl1, ml1, *]
          · have g47' := g47
            try simp only [decide_eq_true_eq, decide_eq_false_iff_not, beq_iff_eq, beq_eq_false_iff_ne, bne_iff_ne, ne_eq, Bool.not_eq_true', Bool.not_eq_false', bne_eq_false_iff_eq, Bool.not_eq_eq_eq_not, Bool.not_true, Bool.not_false] at g47'
            refine Ops.guard_no rfl rfl rfl rfl g47 ?_
            refine Ops.guard_no rfl rfl rfl rfl g47 ?_
            refine Ops.guard_no rfl rfl rfl rfl g47 ?_
            refine Ops.quiet (Qt.pick_f rfl rfl g47) rfl ?_
            refine Ops.quiet (Qt.move rfl) rfl ?_
            refine Ops.guard_no rfl rfl rfl rfl rfl ?_
            refine Ops.guard_no rfl rfl rfl rfl rfl ?_
            refine Ops.guard_no rfl rfl rfl rfl rfl ?_
            refine Ops.guard_no rfl rfl rfl rfl rfl ?_
            refine Ops.guard_no rfl rfl rfl rfl rfl ?_
            refine Ops.quiet (Qt.pick_f rfl rfl rfl) rfl ?_
            refine Ops.quiet (Qt.move rfl) rfl ?_
            refine Ops.guard_no rfl rfl rfl rfl rfl ?_
            refine Ops.guard_no rfl rfl rfl rfl rfl ?_
            refine Ops.guard_no rfl rfl rfl rfl rfl ?_
            refine Ops.quiet (Qt.pick_f rfl rfl rfl) rfl ?_
            refine Ops.quiet (Qt.assign rfl) rfl ?_
            refine Ops.nil ?_
            refine H.then_normal ?_
            refine H.ret ?_
            refine (H.ends_to (cs' := cs) rfl (.cons (.tmp rfl) .nil) (fun w hw => ?_) ?_)
            · exact hw.sub (by repeat (first | exact List.Sublist.refl _ | exact List.nil_sublist _ | apply List.Sublist.cons_cons | apply List.Sublist.cons))
            · refine ⟨congrArg bol ?_, rfl⟩
              simp [goodM, rl1, ml1, *]
        · have g41' := g41
          try simp only [decide_eq_true_eq, decide_eq_false_iff_not, beq_iff_eq, beq_eq_false_iff_ne, bne_iff_ne, ne_eq, Bool.not_eq_true', Bool.not_eq_false', bne_eq_false_iff_eq, Bool.not_eq_eq_eq_not, Bool.not_true, Bool.not_false] at g41'
          refine Ops.guard_no rfl rfl rfl rfl g41 ?_
          refine Ops.guard_no rfl rfl rfl rfl g41 ?_
          refine Ops.guard_no rfl rfl rfl rfl g41 ?_
          refine Ops.quiet (Qt.pick_f rfl rfl g41) rfl ?_
          refine Ops.quiet (Qt.move rfl) rfl ?_
          refine Ops.guard_no rfl rfl rfl rfl rfl ?_
          refine Ops.guard_no rfl rfl rfl rfl rfl ?_
          refine Ops.guard_no rfl rfl rfl rfl rfl ?_
          refine Ops.guard_no rfl rfl rfl rfl rfl ?_
          refine Ops.quiet (Qt.pick_f rfl rfl rfl) rfl ?_
          refine Ops.quiet (Qt.move rfl) rfl ?_
          refine Ops.guard_no rfl rfl rfl rfl rfl ?_
          refine Ops.guard_no rfl rfl rfl rfl rfl ?_
          refine Ops.guard_no rfl rfl rfl rfl rfl ?_
          refine Ops.guard_no rfl rfl rfl rfl rfl ?_
          refine Ops.guard_no rfl rfl rfl rfl rfl ?_
          refine Ops.quiet (Qt.pick_f rfl rfl rfl) rfl ?_
          refine Ops.quiet (Qt.move rfl) rfl ?_
          refine Ops.guard_no rfl rfl rfl rfl rfl ?_
          refine Ops.guard_no rfl rfl rfl rfl rfl ?_
          refine Ops.guard_no rfl rfl rfl rfl rfl ?_
          refine Ops.quiet (Qt.pick_f rfl rfl rfl) rfl ?_
          refine Ops.quiet (Qt.assign rfl) rfl ?_
          refine Ops.nil ?_
          refine H.then_normal ?_
          refine H.ret ?_
          refine (H.ends_to (cs' := cs) rfl (.cons (.tmp rfl) .nil) (fun w hw => ?_) ?_)
          · exact hw.sub (by repeat (first | exact List.Sublist.refl _ | exact List.nil_sublist _ | apply List.Sublist.cons_cons | apply List.Sublist.cons))
          · refine ⟨congrArg bol ?_, rfl⟩
            simp [goodM, rl1, ml1, *]
      · have g35' := g35
        try simp only [decide_eq_true_eq, decide_eq_false_iff_not, beq_iff_eq, beq_eq_false_iff_ne, bne_iff_ne, ne_eq, Bool.not_eq_true', Bool.not_eq_false', bne_eq_false_iff_eq, Bool.not_eq_eq_eq_not, Bool.not_true, Bool.not_false] at g35'
        refine Ops.guard_no rfl rfl rfl rfl g35 ?_
        refine Ops.guard_no rfl rfl rfl rfl g35 ?_
        refine Ops.guard_no rfl rfl rfl rfl g35 ?_
        refine Ops.quiet (Qt.pick_f rfl rfl g35) rfl ?_
        refine Ops.quiet (Qt.move rfl) rfl ?_
        refine Ops.guard_no rfl rfl rfl rfl rfl ?_
        refine Ops.guard_no rfl rfl rfl rfl rfl ?_
        refine Ops.guard_no rfl rfl rfl rfl rfl ?_
        refine Ops.guard_no rfl rfl rfl rfl rfl ?_
        refine Ops.quiet (Qt.pick_f rfl rfl rfl) rfl ?_
        refine Ops.quiet (Qt.move rfl) rfl ?_
        refine Ops.guard_no rfl rfl rfl rfl rfl ?_
        refine Ops.guard_no rfl rfl rfl rfl rfl ?_
        refine Ops.guard_no rfl rfl rfl rfl rfl ?_
        refine Ops.guard_no rfl rfl rfl rfl rfl ?_
        refine Ops.quiet (Qt.pick_f rfl rfl rfl) rfl ?_
        refine Ops.quiet (Qt.move rfl) rfl ?_
        refine Ops.guard_no rfl rfl rfl rfl rfl ?_
        refine Ops.guard_no rfl rfl rfl rfl rfl ?_
        refine Ops.guard_no rfl rfl rfl rfl rfl ?_
        refine Ops.guard_no rfl rfl rfl rfl rfl ?_
        refine Ops.guard_no rfl rfl rfl rfl rfl ?_
        refine Ops.quiet (Qt.pick_f rfl rfl rfl) rfl ?_
        refine Ops.quiet (Qt.move rfl) rfl ?_
        refine Ops.guard_no rfl rfl rfl rfl rfl ?_
        refine Ops.guard_no rfl rfl rfl rfl rfl ?_
        refine Ops.guard_no rfl rfl rfl rfl rfl ?_
        refine Ops.quiet (Qt.pick_f rfl rfl rfl) rfl ?_
        refine Ops.quiet (Qt.assign rfl) rfl ?_
        refine Ops.nil ?_
        refine H.then_normal ?_
        refine H.ret ?_
        refine (H.ends_to (cs' := cs) rfl (.cons (.tmp rfl) .nil) (fun w hw => ?_) ?_)
        · exact hw.sub (by repeat (first | exact List.Sublist.refl _ | exact List.nil_sublist _ | apply List.Sublist.cons_cons | apply List.Sublist.cons))
        · refine ⟨congrArg bol ?_, rfl⟩
          simp [goodM, rl1, ml1, *]
  · have g19' := g19
    try simp only [decide_eq_true_eq, decide_eq_false_iff_not, beq_iff_eq, beq_eq_false_iff_ne, bne_iff_ne, ne_eq, Bool.not_eq_true', Bool.not_eq_false', bne_eq_false_iff_eq, Bool.not_eq_eq_eq_not, Bool.not_true, Bool.not_false] at g19'
    refine Ops.guard_no rfl rfl rfl rfl g19 ?_
    refine Ops.guard_no rfl rfl rfl rfl g19 ?_
    refine Ops.guard_no rfl rfl rfl rfl g19 ?_
    refine Ops.guard_un rfl rfl rfl rfl ?_
    refine Ops.guard_un rfl rfl rfl rfl ?_
    refine Ops.guard_un rfl rfl rfl rfl ?_
    refine Ops.guard_no rfl rfl rfl rfl g19 ?_
    refine Ops.quiet (Qt.pick_f rfl rfl g19) rfl ?_
    refine Ops.quiet (Qt.move rfl) rfl ?_
    refine Ops.guard_no rfl rfl rfl rfl rfl ?_
    refine Ops.guard_no rfl rfl rfl rfl rfl ?_
    refine Ops.guard_no rfl rfl rfl rfl rfl ?_
    refine Ops.guard_no rfl rfl rfl rfl rfl ?_
    refine Ops.quiet (Qt.pick_f rfl rfl rfl) rfl ?_
    refine Ops.quiet (Qt.move rfl) rfl ?_
    refine Ops.guard_no rfl rfl rfl rfl rfl ?_
    refine Ops.guard_no rfl rfl rfl rfl rfl ?_
    refine Ops.guard_no rfl rfl rfl rfl rfl ?_
    refine Ops.guard_no rfl rfl rfl rfl rfl ?_
    refine Ops.quiet (Qt.pick_f rfl rfl rfl) rfl ?_
    refine Ops.quiet (Qt.move rfl) rfl ?_
    refine Ops.guard_no rfl rfl rfl rfl rfl ?_
    refine Ops.guard_no rfl rfl rfl rfl rfl ?_
    refine Ops.guard_no rfl rfl rfl rfl rfl ?_
    refine Ops.guard_no rfl rfl rfl rfl rfl ?_
    refine Ops.quiet (Qt.pick_f rfl rfl rfl) rfl ?_
    refine Ops.quiet (Qt.move rfl) rfl ?_
    refine Ops.guard_no rfl rfl rfl rfl rfl ?_
    refine Ops.guard_no rfl rfl rfl rfl rfl ?_
    refine Ops.guard_no rfl rfl rfl rfl rfl ?_
    refine Ops.guard_no rfl rfl rfl rfl rfl ?_
    refine Ops.quiet (Qt.pick_f rfl rfl rfl) rfl ?_
    refine Ops.quiet (Qt.move rfl) rfl ?_
    refine Ops.guard_no rfl rfl rfl rfl rfl ?_
    refine Ops.guard_no rfl rfl rfl rfl rfl ?_
    refine Ops.guard_no rfl rfl rfl rfl rfl ?_
    refine Ops.guard_no rfl rfl rfl rfl rfl ?_
    refine Ops.guard_no rfl rfl rfl rfl rfl ?_
    refine Ops.quiet (Qt.pick_f rfl rfl rfl) rfl ?_
    refine Ops.quiet (Qt.move rfl) rfl ?_
    refine Ops.guard_no rfl rfl rfl rfl rfl ?_
    refine Ops.guard_no rfl rfl rfl rfl rfl ?_
    refine Ops.guard_no rfl rfl rfl rfl rfl ?_
    refine Ops.quiet (Qt.pick_f rfl rfl rfl) rfl ?_
    refine Ops.quiet (Qt.assign rfl) rfl ?_
    refine Ops.nil ?_
    refine H.then_normal ?_
    refine H.ret ?_
    refine (H.ends_to (cs' := cs) rfl (.cons (.tmp rfl) .nil) (fun w hw => ?_) ?_)
    · exact hw.sub (by repeat (first | exact List.Sublist.refl _ | exact List.nil_sublist _ | apply List.Sublist.cons_cons | apply List.Sublist.cons))
    · refine ⟨congrArg bol ?_, rfl⟩
      simp [goodM, rl1, ml1, *]
theorem any_false_iff {α : Type} {p : α → Bool} {l : List α} : l.any p = false ↔ ∀ x ∈ l, p x = false := by simp
/-- What a good message is, in words. -/
structure GoodM (m : Mg) : Prop where
  nums : ∀ n ∈ m.nums, 0 ≤ n ∧ n ≤ 1099511627776
  frm : m.frm = [] ∨ mboxB m.frm = true
  r0 : 1 ≤ m.rcpts.length
  r1 : m.rcpts.length ≤ 20
  rc : ∀ s ∈ m.rcpts, mboxB s = true
  m1 : m.marks.length ≤ 50
  mks : ∀ n ∈ m.marks, 0 ≤ n ∧ n ≤ 2
  bd : goodB m.body = true
theorem goodM_iff {m : Mg} : goodM m = true ↔ GoodM m := by
  constructor
  · intro h
    simp only [goodM, Bool.and_eq_true, Bool.not_eq_true', any_false_iff, decide_eq_true_eq, Bool.or_eq_true, beq_iff_eq] at h
    obtain ⟨h1, h2, h3, h4, h5, h6, h7, h8⟩ := h
    refine ⟨fun n hn => ?_, h2, by omega, by omega, fun s hs => by simpa using h5 s hs, by omega, fun n hn => ?_, h8⟩
    · have := h1 n hn; simp [timeB] at this; exact this
    · have := h7 n hn; simp [oddM] at this; omega
  · intro ⟨h1, h2, h3, h4, h5, h6, h7, h8⟩
    simp only [goodM, Bool.and_eq_true, Bool.not_eq_true', any_false_iff, decide_eq_true_eq, Bool.or_eq_true, beq_iff_eq]
    refine ⟨fun n hn => ?_, h2, by omega, by omega, fun s hs => by simp [h5 s hs], by omega, fun n hn => ?_, h8⟩
    · have := h1 n hn; simp [timeB, this]
    · have := h7 n hn; simp [oddM]; omega
theorem bad_of {m : Mg} (h : ¬ GoodM m) : goodM m = false := by
  cases hg : goodM m with
  | false => rfl
  | true => exact absurd (goodM_iff.1 hg) h
theorem all_take_succ {α : Type} {p : α → Prop} {l : List α} {i : Nat} (d : α) (hi : i < l.length) (h : ∀ x ∈ l.take i, p x) (hp : p (l.getD i d)) : ∀ x ∈ l.take (i + 1), p x := by
  intro x hx
  rw [List.take_succ_eq_append_getElem hi, List.mem_append, List.mem_singleton] at hx
  rcases hx with hx | rfl
  · exact h x hx
  · simpa [List.getD_eq_getElem?_getD, hi] using hp
theorem getD_mem {α : Type} {l : List α} {i : Nat} (d : α) (hi : i < l.length) : l.getD i d ∈ l := by
  rw [List.getD_eq_getElem?_getD, List.getElem?_eq_getElem hi]; simp
theorem spec_rgoodM (w0 : World) (m : Mg) (a : Ma) (hb : MB m) (cs : List SProp) (hm : MR w0 cs m a) :
    Spec Tryz.prog w0 8 [m.v a] cs (fun v cs' => v = bol (goodM m) ∧ cs' = cs) := by
  obtain ⟨hr, hk, hd⟩ := hm
  refine Spec.of_body Tryz.func8 rfl Tryz.ntmps8 rfl ?_
  refine H.fact (fun w hw => (hr w hw).facts) fun ⟨rl1, rl2, rl3, rl4⟩ => ?_
  refine H.fact (fun w hw => (hk w hw).facts) fun ⟨ml1, ml2, ml3, ml4⟩ => ?_
  simp only [List.length_map] at rl1 ml1
  refine H.seq ?_
  refine H.region ?_
  refine Ops.eff (Ef.box rfl rfl) rfl ?_
  rintro _ _ ⟨b1, rfl, rfl⟩
  refine Ops.quiet (Qt.assign rfl) rfl ?_
  refine Ops.nil ?_
  refine H.then_normal ?_
  refine H.seq ?_
  refine H.region ?_
  refine Ops.quiet (Qt.fieldAddr rfl (tk rfl) rfl) rfl ?_
  refine Ops.quiet (Qt.load rfl (tk rfl) rfl (by repeat (first | exact List.Mem.head _ | apply List.Mem.tail)) (by rfl)) rfl ?_
  refine Ops.quiet (Qt.fieldAddr rfl (tk rfl) rfl) rfl ?_
  refine Ops.quiet (Qt.load rfl (tk rfl) rfl (by repeat (first | exact List.Mem.head _ | apply List.Mem.tail)) (by rfl)) rfl ?_
  refine Ops.quiet (Qt.fieldAddr rfl (tk rfl) rfl) rfl ?_
  refine Ops.quiet (Qt.load rfl (tk rfl) rfl (by repeat (first | exact List.Mem.head _ | apply List.Mem.tail)) (by rfl)) rfl ?_
  refine Ops.quiet (Qt.fieldAddr rfl (tk rfl) rfl) rfl ?_
  refine Ops.quiet (Qt.load rfl (tk rfl) rfl (by repeat (first | exact List.Mem.head _ | apply List.Mem.tail)) (by rfl)) rfl ?_
  refine Ops.quiet (Qt.fieldAddr rfl (tk rfl) rfl) rfl ?_
  refine Ops.quiet (Qt.load rfl (tk rfl) rfl (by repeat (first | exact List.Mem.head _ | apply List.Mem.tail)) (by rfl)) rfl ?_
  refine Ops.eff (Ef.buildSlice (tk rfl) (tk rfl) rfl (zk rfl) rfl rfl rfl (by repeat (first | exact ones_nil | refine ones_cons rfl ?_))) rfl ?_
  rintro _ _ ⟨A17, c17, rfl, rfl⟩
  refine Ops.quiet (Qt.assign rfl) rfl ?_
  refine Ops.nil ?_
  refine H.then_normal ?_
  refine H.seq ?_
  refine H.seq ?_
  refine H.region ?_
  refine Ops.quiet (Qt.assign rfl) rfl ?_
  refine Ops.nil ?_
  refine H.then_normal ?_
  refine H.block ?_
  refine H.loop (X := Nat) (fun i => [(1, ptr b1), (3, .slice A17 5 c17), (4, num i)]) (fun i => osl 3 A17 5 c17 (m.nums.map num) :: blk b1 (m.cells a) 25 :: cs) (fun i => i ≤ 5 ∧ ∀ n ∈ m.nums.take i, 0 ≤ n ∧ n ≤ 1099511627776) (fun i => 5 - i) 0 ⟨Nat.zero_le _, by simp⟩ (by repeat (first | exact trivial | refine ⟨rfl, ?_⟩)) (fun w hw => hw) ?_
  intro i ⟨hi, hn⟩
  refine H.seq ?_
  refine H.seq ?_
  refine H.region ?_
  refine Ops.quiet (Qt.move rfl) rfl ?_
  refine Ops.quiet (Qt.lss rfl rfl) rfl ?_
  refine Ops.nil ?_
  refine H.then_normal ?_
  refine H.cond rfl (fun h19 => ?_) (fun h19 => ?_)
  · try simp only [decide_eq_true_eq, decide_eq_false_iff_not, beq_iff_eq, beq_eq_false_iff_ne, bne_iff_ne, ne_eq, Bool.not_eq_true', Bool.not_eq_false', bne_eq_false_iff_eq, Bool.not_eq_eq_eq_not, Bool.not_true, Bool.not_false] at h19
    refine H.skip ?_
    refine H.then_normal ?_
    refine H.seq ?_
    refine H.block ?_
    refine H.seq ?_
    have hi2 : i < m.nums.length := by show i < 5; omega
    have hi3 : (i : Int).toNat < m.nums.length := hi2
    refine H.region ?_
    refine Ops.quiet (Qt.move rfl) rfl ?_
    refine Ops.quiet (Qt.move rfl) rfl ?_
    refine Ops.quiet (Qt.indexAddr rfl rfl (tk rfl) (tk rfl) rfl (osl_reads (.head _)) (by omega) (by omega)) rfl ?_
    refine Ops.quiet (Qt.load_map (0 : Int) rfl (tk rfl) rfl (osl_reads (.head _)) (by exact hi3)) rfl ?_
    refine Ops.quiet (Qt.lss rfl rfl) rfl ?_
    refine Ops.quiet (Qt.move rfl) rfl ?_
    refine Ops.guard rfl rfl rfl rfl (fun g27 => ?_) (fun g27 => ?_)
    · have g27' := g27
      try simp only [decide_eq_true_eq, decide_eq_false_iff_not, beq_iff_eq, beq_eq_false_iff_ne, bne_iff_ne, ne_eq, Bool.not_eq_true', Bool.not_eq_false', bne_eq_false_iff_eq, Bool.not_eq_eq_eq_not, Bool.not_true, Bool.not_false] at g27'
      refine Ops.quiet (Qt.move rfl) rfl ?_
      refine Ops.guard_yes rfl rfl rfl rfl g27 ?_
      refine Ops.quiet (Qt.move rfl) rfl ?_
      refine Ops.guard_yes rfl rfl rfl rfl g27 ?_
      refine Ops.quiet (Qt.indexAddr rfl rfl (tk rfl) (tk rfl) rfl (osl_reads (.head _)) (by omega) (by omega)) rfl ?_
      refine Ops.guard_yes rfl rfl rfl rfl g27 ?_
      refine Ops.quiet (Qt.load_map (0 : Int) rfl (tk rfl) rfl (osl_reads (.head _)) (by exact hi3)) rfl ?_
      refine Ops.guard_yes rfl rfl rfl rfl g27 ?_
      refine Ops.quiet (Qt.gtr rfl rfl) rfl ?_
      refine Ops.quiet (Qt.pick_f rfl rfl g27) rfl ?_
      refine Ops.nil ?_
      refine H.then_normal ?_
      refine H.cond rfl (fun h33 => ?_) (fun h33 => ?_)
      · try simp only [decide_eq_true_eq, decide_eq_false_iff_not, beq_iff_eq, beq_eq_false_iff_ne, bne_iff_ne, ne_eq, Bool.not_eq_true', Bool.not_eq_false', bne_eq_false_iff_eq, Bool.not_eq_eq_eq_not, Bool.not_true, Bool.not_false] at h33
        refine H.seq ?_
        refine H.region ?_
        refine Ops.quiet (Qt.assign rfl) rfl ?_
        refine Ops.nil ?_
        refine H.then_normal ?_
        refine H.ret ?_
        refine H.blk_ret ?_
        refine H.then_ret ?_
        refine H.then_ret ?_
        refine H.blk_ret ?_
        refine H.then_ret ?_
        refine (H.ends_to (cs' := cs) rfl (.cons (.tmp rfl) .nil) (fun w hw => ?_) ?_)
        · exact hw.sub (by repeat (first | exact List.Sublist.refl _ | exact List.nil_sublist _ | apply List.Sublist.cons_cons | apply List.Sublist.cons))
        · refine ⟨congrArg bol (bad_of fun h => ?_).symm, rfl⟩
          have := h.nums _ (getD_mem 0 hi2)
          have h34 : 1099511627776 < m.nums.getD i 0 := h33
          omega
      · try simp only [decide_eq_true_eq, decide_eq_false_iff_not, beq_iff_eq, beq_eq_false_iff_ne, bne_iff_ne, ne_eq, Bool.not_eq_true', Bool.not_eq_false', bne_eq_false_iff_eq, Bool.not_eq_eq_eq_not, Bool.not_true, Bool.not_false] at h33
        refine H.skip ?_
        refine H.blk_normal ?_
        refine H.then_normal ?_
        refine H.region ?_
        refine Ops.quiet (Qt.move rfl) rfl ?_
        refine Ops.quiet (Qt.addk rfl rfl (by first | exact IntWalk.i64_in _ (by omega) | exact IntWalk.u8_in _ (by omega) | exact IntWalk.u64_in _ (by omega) | exact IntWalk.u32_in _ (by omega) | exact IntWalk.u16_in _ (by omega))) rfl ?_
        refine Ops.quiet (Qt.assign rfl) rfl ?_
        refine Ops.nil ?_
        refine H.then_normal ?_
        refine H.round (i + 1) ⟨by omega, all_take_succ 0 hi2 hn (by constructor; exact Int.not_lt.1 g27'; exact Int.not_lt.1 h33)⟩ (by omega) (by repeat (first | exact trivial | refine ⟨rfl, ?_⟩)) (fun w hw => hw)
    · have g27' := g27
      try simp only [decide_eq_true_eq, decide_eq_false_iff_not, beq_iff_eq, beq_eq_false_iff_ne, bne_iff_ne, ne_eq, Bool.not_eq_true', Bool.not_eq_false', bne_eq_false_iff_eq, Bool.not_eq_eq_eq_not, Bool.not_true, Bool.not_false] at g27'
      refine Ops.guard_no rfl rfl rfl rfl g27 ?_
      refine Ops.guard_no rfl rfl rfl rfl g27 ?_
      refine Ops.guard_no rfl rfl rfl rfl g27 ?_
      refine Ops.guard_no rfl rfl rfl rfl g27 ?_
      refine Ops.quiet (Qt.pick_t rfl rfl g27) rfl ?_
      refine Ops.nil ?_
      refine H.then_normal ?_
      refine H.cond_true rfl (by rfl) ?_
      refine H.seq ?_
      refine H.region ?_
      refine Ops.quiet (Qt.assign rfl) rfl ?_
      refine Ops.nil ?_
      refine H.then_normal ?_
      refine H.ret ?_
      refine H.blk_ret ?_
      refine H.then_ret ?_
      refine H.then_ret ?_
      refine H.blk_ret ?_
      refine H.then_ret ?_
      refine (H.ends_to (cs' := cs) rfl (.cons (.tmp rfl) .nil) (fun w hw => ?_) ?_)
      · exact hw.sub (by repeat (first | exact List.Sublist.refl _ | exact List.nil_sublist _ | apply List.Sublist.cons_cons | apply List.Sublist.cons))
      · refine ⟨congrArg bol (bad_of fun h => ?_).symm, rfl⟩
        have := h.nums _ (getD_mem 0 hi2)
        have h34 : m.nums.getD i 0 < 0 := by simpa using g27
        omega
  · try simp only [decide_eq_true_eq, decide_eq_false_iff_not, beq_iff_eq, beq_eq_false_iff_ne, bne_iff_ne, ne_eq, Bool.not_eq_true', Bool.not_eq_false', bne_eq_false_iff_eq, Bool.not_eq_eq_eq_not, Bool.not_true, Bool.not_false] at h19
    refine H.exit ?_
    refine H.then_exit ?_
    refine H.then_exit ?_
    refine H.blk_hit ?_
    refine H.then_normal ?_
    refine H.seq ?_
    refine H.seq ?_
    have hn5 : ∀ n ∈ m.nums, 0 ≤ n ∧ n ≤ 1099511627776 := by
      have : m.nums.take i = m.nums := List.take_of_length_le (by show 5 ≤ i; omega)
      rwa [this] at hn
    refine H.region ?_
    refine Ops.quiet (Qt.fieldAddr rfl (tk rfl) rfl) rfl ?_
    refine Ops.quiet (Qt.load rfl (tk rfl) rfl (by repeat (first | exact List.Mem.head _ | apply List.Mem.tail)) (by rfl)) rfl ?_
    refine Ops.quiet (Qt.sne rfl rfl) rfl ?_
    refine Ops.quiet (Qt.move rfl) rfl ?_
    refine Ops.guard rfl rfl rfl rfl (fun g37 => ?_) (fun g37 => ?_)
    · have g37' := g37
      try simp only [decide_eq_true_eq, decide_eq_false_iff_not, beq_iff_eq, beq_eq_false_iff_ne, bne_iff_ne, ne_eq, Bool.not_eq_true', Bool.not_eq_false', bne_eq_false_iff_eq, Bool.not_eq_eq_eq_not, Bool.not_true, Bool.not_false] at g37'
      refine Ops.quiet (Qt.fieldAddr rfl (tk rfl) rfl) rfl ?_
      refine Ops.guard_yes rfl rfl rfl rfl g37 ?_
      refine Ops.quiet (Qt.load rfl (tk rfl) rfl (by repeat (first | exact List.Mem.head _ | apply List.Mem.tail)) (by rfl)) rfl ?_
      refine Ops.guard_yes rfl rfl rfl rfl g37 ?_
      refine Ops.eff (Ef.call (fok fab_all rfl Tryz.func18 rfl) rfl (spec_rmailbox w0 m.frm (by have := hb.f; omega) _)) rfl ?_
      rintro _ c0 ⟨rfl, h0⟩; subst c0
      refine Ops.guard_yes rfl rfl rfl rfl g37 ?_
      refine Ops.quiet (Qt.not rfl) rfl ?_
      refine Ops.quiet (Qt.pick_t rfl rfl g37) rfl ?_
      refine Ops.quiet (Qt.move rfl) rfl ?_
      refine Ops.guard rfl rfl rfl rfl (fun g43 => ?_) (fun g43 => ?_)
      · have g43' := g43
        try simp only [decide_eq_true_eq, decide_eq_false_iff_not, beq_iff_eq, beq_eq_false_iff_ne, bne_iff_ne, ne_eq, Bool.not_eq_true', Bool.not_eq_false', bne_eq_false_iff_eq, Bool.not_eq_eq_eq_not, Bool.not_true, Bool.not_false] at g43'
        refine Ops.quiet (Qt.fieldAddr rfl (tk rfl) rfl) rfl ?_
        refine Ops.guard_yes rfl rfl rfl rfl g43 ?_
        refine Ops.quiet (Qt.load rfl (tk rfl) rfl (by repeat (first | exact List.Mem.head _ | apply List.Mem.tail)) (by rfl)) rfl ?_
        refine Ops.guard_yes rfl rfl rfl rfl g43 ?_
        refine Ops.quiet (Qt.len_sl (ats := #[]) rfl (tk rfl)) rfl ?_
        refine Ops.guard_yes rfl rfl rfl rfl g43 ?_
        refine Ops.quiet (Qt.lss rfl rfl) rfl ?_
        refine Ops.quiet (Qt.pick_f rfl rfl g43) rfl ?_
        refine Ops.quiet (Qt.move rfl) rfl ?_
        refine Ops.guard rfl rfl rfl rfl (fun g49 => ?_) (fun g49 => ?_)
        · have g49' := g49
          try simp only [decide_eq_true_eq, decide_eq_false_iff_not, beq_iff_eq, beq_eq_false_iff_ne, bne_iff_ne, ne_eq, Bool.not_eq_true', Bool.not_eq_false', bne_eq_false_iff_eq, Bool.not_eq_eq_eq_not, Bool.not_true, Bool.not_false] at g49'
          refine Ops.quiet (Qt.fieldAddr rfl (tk rfl) rfl) rfl ?_
          refine Ops.guard_yes rfl rfl rfl rfl g49 ?_
          refine Ops.quiet (Qt.load rfl (tk rfl) rfl (by repeat (first | exact List.Mem.head _ | apply List.Mem.tail)) (by rfl)) rfl ?_
          refine Ops.guard_yes rfl rfl rfl rfl g49 ?_
          refine Ops.quiet (Qt.len_sl (ats := #[]) rfl (tk rfl)) rfl ?_
          refine Ops.guard_yes rfl rfl rfl rfl g49 ?_
          refine Ops.quiet (Qt.gtr rfl rfl) rfl ?_
          refine Ops.quiet (Qt.pick_f rfl rfl g49) rfl ?_
          refine Ops.quiet (Qt.move rfl) rfl ?_
          refine Ops.guard rfl rfl rfl rfl (fun g55 => ?_) (fun g55 => ?_)
          · have g55' := g55
            try simp only [decide_eq_true_eq, decide_eq_false_iff_not, beq_iff_eq, beq_eq_false_iff_ne, bne_iff_ne, ne_eq, Bool.not_eq_true', Bool.not_eq_false', bne_eq_false_iff_eq, Bool.not_eq_eq_eq_not, Bool.not_true, Bool.not_false] at g55'
            refine Ops.quiet (Qt.fieldAddr rfl (tk rfl) rfl) rfl ?_
            refine Ops.guard_yes rfl rfl rfl rfl g55 ?_
            refine Ops.quiet (Qt.load rfl (tk rfl) rfl (by repeat (first | exact List.Mem.head _ | apply List.Mem.tail)) (by rfl)) rfl ?_
            refine Ops.guard_yes rfl rfl rfl rfl g55 ?_
            refine Ops.quiet (Qt.len_sl (ats := #[]) rfl (tk rfl)) rfl ?_
            refine Ops.guard_yes rfl rfl rfl rfl g55 ?_
            refine Ops.quiet (Qt.gtr rfl rfl) rfl ?_
            refine Ops.quiet (Qt.pick_f rfl rfl g55) rfl ?_
            refine Ops.quiet (Qt.move rfl) rfl ?_
            refine Ops.guard rfl rfl rfl rfl (fun g61 => ?_) (fun g61 => ?_)
            · have g61' := g61
              try simp only [decide_eq_true_eq, decide_eq_false_iff_not, beq_iff_eq, beq_eq_false_iff_ne, bne_iff_ne, ne_eq, Bool.not_eq_true', Bool.not_eq_false', bne_eq_false_iff_eq, Bool.not_eq_eq_eq_not, Bool.not_true, Bool.not_false] at g61'
              refine Ops.quiet (Qt.fieldAddr rfl (tk rfl) rfl) rfl ?_
              refine Ops.guard_yes rfl rfl rfl rfl g61 ?_
              refine Ops.quiet (Qt.load rfl (tk rfl) rfl (by repeat (first | exact List.Mem.head _ | apply List.Mem.tail)) (by rfl)) rfl ?_
              refine Ops.guard_yes rfl rfl rfl rfl g61 ?_
              refine Ops.eff (Ef.call (fok fab_all rfl Tryz.func19 rfl) rfl (spec_rgood w0 m.body _ (by repeat (first | assumption | exact Reads.of_head | apply Reads.tail)) (by have := hb.bn; omega) (fun s hs => by have := hb.b s hs; omega))) rfl ?_
              rintro _ c0 ⟨rfl, h0⟩; subst c0
              refine Ops.guard_yes rfl rfl rfl rfl g61 ?_
              refine Ops.quiet (Qt.not rfl) rfl ?_
              refine Ops.quiet (Qt.pick_f rfl rfl g61) rfl ?_
              refine Ops.nil ?_
              refine H.then_normal ?_
              refine H.cond rfl (fun h66 => ?_) (fun h66 => ?_)
              · try simp only [decide_eq_true_eq, decide_eq_false_iff_not, beq_iff_eq, beq_eq_false_iff_ne, bne_iff_ne, ne_eq, Bool.not_eq_true', Bool.not_eq_false', bne_eq_false_iff_eq, Bool.not_eq_eq_eq_not, Bool.not_true, Bool.not_false] at h66
                refine H.seq ?_
                refine H.region ?_
                refine Ops.quiet (Qt.assign rfl) rfl ?_
                refine Ops.nil ?_
                refine H.then_normal ?_
                refine H.ret ?_
                refine H.then_ret ?_
                refine (H.ends_to (cs' := cs) rfl (.cons (.tmp rfl) .nil) (fun w hw => ?_) ?_)
                · exact hw.sub (by repeat (first | exact List.Sublist.refl _ | exact List.nil_sublist _ | apply List.Sublist.cons_cons | apply List.Sublist.cons))
                · refine ⟨congrArg bol (bad_of fun h => ?_).symm, rfl⟩
                  have q1 := h.bd
                  rw [h66] at q1
                  cases q1
              · try simp only [decide_eq_true_eq, decide_eq_false_iff_not, beq_iff_eq, beq_eq_false_iff_ne, bne_iff_ne, ne_eq, Bool.not_eq_true', Bool.not_eq_false', bne_eq_false_iff_eq, Bool.not_eq_eq_eq_not, Bool.not_true, Bool.not_false] at h66
                refine H.skip ?_
                refine H.then_normal ?_
                refine H.seq ?_
                refine H.seq ?_
                have hgb : goodB m.body = true := by simpa using h66
                have hfr : m.frm = [] ∨ mboxB m.frm = true := by first | (left; exact g37') | (right; simpa using g43')
                refine H.region ?_
                refine Ops.quiet (Qt.assign rfl) rfl ?_
                refine Ops.nil ?_
                refine H.then_normal ?_
                refine H.block ?_
                refine H.loop (X := Nat) (fun i => [(1, ptr b1), (5, num i)]) (fun i => blk b1 (m.cells a) 25 :: cs) (fun i => i ≤ a.r.n ∧ ∀ s ∈ m.rcpts.take i, mboxB s = true) (fun i => a.r.n - i) 0 ⟨Nat.zero_le _, by simp⟩ (by repeat (first | exact trivial | refine ⟨rfl, ?_⟩)) (fun w hw => hw.sub (by repeat (first | exact List.Sublist.refl _ | exact List.nil_sublist _ | apply List.Sublist.cons_cons | apply List.Sublist.cons))) ?_
                intro k ⟨hk1, hk2⟩
                refine H.seq ?_
                refine H.seq ?_
                refine H.region ?_
                refine Ops.quiet (Qt.move rfl) rfl ?_
                refine Ops.quiet (Qt.fieldAddr rfl (tk rfl) rfl) rfl ?_
                refine Ops.quiet (Qt.load rfl (tk rfl) rfl (by repeat (first | exact List.Mem.head _ | apply List.Mem.tail)) (by rfl)) rfl ?_
                refine Ops.quiet (Qt.len_sl (ats := #[]) rfl (tk rfl)) rfl ?_
                refine Ops.quiet (Qt.lss rfl rfl) rfl ?_
                refine Ops.nil ?_
                refine H.then_normal ?_
                refine H.cond rfl (fun h71 => ?_) (fun h71 => ?_)
                · try simp only [decide_eq_true_eq, decide_eq_false_iff_not, beq_iff_eq, beq_eq_false_iff_ne, bne_iff_ne, ne_eq, Bool.not_eq_true', Bool.not_eq_false', bne_eq_false_iff_eq, Bool.not_eq_eq_eq_not, Bool.not_true, Bool.not_false] at h71
                  refine H.skip ?_
                  refine H.then_normal ?_
                  refine H.seq ?_
                  refine H.block ?_
                  refine H.seq ?_
                  have hk3 : k < m.rcpts.length := by omega
                  obtain ⟨s, hs⟩ : ∃ s, s = m.rcpts.getD k [] := ⟨_, rfl⟩
                  have hgd : m.rcpts.getD (k : Int).toNat [] = s := hs.symm
                  have hsm : s ∈ m.rcpts := hs ▸ getD_mem [] hk3
                  refine H.region ?_
                  refine Ops.quiet (Qt.fieldAddr rfl (tk rfl) rfl) rfl ?_
                  refine Ops.quiet (Qt.load rfl (tk rfl) rfl (by repeat (first | exact List.Mem.head _ | apply List.Mem.tail)) (by rfl)) rfl ?_
                  refine Ops.quiet (Qt.move rfl) rfl ?_
                  refine Ops.quiet (Qt.indexAddr rfl rfl (tk rfl) (tk rfl) rfl (by repeat (first | assumption | exact Reads.of_head | apply Reads.tail)) (by omega) (by omega)) rfl ?_
                  refine Ops.quiet (Qt.load_map ([] : List UInt8) rfl (tk rfl) rfl (by repeat (first | assumption | exact Reads.of_head | apply Reads.tail)) (by omega)) rfl ?_
                  refine Ops.eff (Ef.call (fok fab_all rfl Tryz.func18 rfl) rfl (by rw [hgd]; exact spec_rmailbox w0 s (by have := hb.r s hsm; omega) _)) rfl ?_
                  rintro _ c0 ⟨rfl, h0⟩; subst c0
                  refine Ops.quiet (Qt.not rfl) rfl ?_
                  refine Ops.nil ?_
                  refine H.then_normal ?_
                  refine H.cond rfl (fun h80 => ?_) (fun h80 => ?_)
                  · try simp only [decide_eq_true_eq, decide_eq_false_iff_not, beq_iff_eq, beq_eq_false_iff_ne, bne_iff_ne, ne_eq, Bool.not_eq_true', Bool.not_eq_false', bne_eq_false_iff_eq, Bool.not_eq_eq_eq_not, Bool.not_true, Bool.not_false] at h80
                    refine H.seq ?_
                    refine H.region ?_
                    refine Ops.quiet (Qt.assign rfl) rfl ?_
                    refine Ops.nil ?_
                    refine H.then_normal ?_
                    refine H.ret ?_
                    refine H.blk_ret ?_
                    refine H.then_ret ?_
                    refine H.then_ret ?_
                    refine H.blk_ret ?_
                    refine H.then_ret ?_
                    refine (H.ends_to (cs' := cs) rfl (.cons (.tmp rfl) .nil) (fun w hw => ?_) ?_)
                    · exact hw.sub (by repeat (first | exact List.Sublist.refl _ | exact List.nil_sublist _ | apply List.Sublist.cons_cons | apply List.Sublist.cons))
                    · refine ⟨congrArg bol (bad_of fun h => ?_).symm, rfl⟩
                      have q1 := h.rc s hsm
                      rw [q1] at h80
                      cases h80
                  · try simp only [decide_eq_true_eq, decide_eq_false_iff_not, beq_iff_eq, beq_eq_false_iff_ne, bne_iff_ne, ne_eq, Bool.not_eq_true', Bool.not_eq_false', bne_eq_false_iff_eq, Bool.not_eq_eq_eq_not, Bool.not_true, Bool.not_false] at h80
                    refine H.skip ?_
                    refine H.blk_normal ?_
                    refine H.then_normal ?_
                    refine H.region ?_
                    refine Ops.quiet (Qt.move rfl) rfl ?_
                    refine Ops.quiet (Qt.addk rfl rfl (by first | exact IntWalk.i64_in _ (by omega) | exact IntWalk.u8_in _ (by omega) | exact IntWalk.u64_in _ (by omega) | exact IntWalk.u32_in _ (by omega) | exact IntWalk.u16_in _ (by omega))) rfl ?_
                    refine Ops.quiet (Qt.assign rfl) rfl ?_
                    refine Ops.nil ?_
                    refine H.then_normal ?_
                    refine H.round (k + 1) ⟨by omega, all_take_succ [] hk3 hk2 (by rw [← hs]; simpa using h80)⟩ (by omega) (by repeat (first | exact trivial | refine ⟨rfl, ?_⟩)) (fun w hw => hw)
                · try simp only [decide_eq_true_eq, decide_eq_false_iff_not, beq_iff_eq, beq_eq_false_iff_ne, bne_iff_ne, ne_eq, Bool.not_eq_true', Bool.not_eq_false', bne_eq_false_iff_eq, Bool.not_eq_eq_eq_not, Bool.not_true, Bool.not_false] at h71
                  refine H.exit ?_
                  refine H.then_exit ?_
                  refine H.then_exit ?_
                  refine H.blk_hit ?_
                  refine H.then_normal ?_
                  refine H.seq ?_
                  refine H.seq ?_
                  refine H.region ?_
                  refine Ops.quiet (Qt.assign rfl) rfl ?_
                  refine Ops.nil ?_
                  refine H.then_normal ?_
                  refine H.block ?_
                  have hrc : ∀ s ∈ m.rcpts, mboxB s = true := by
                    have : m.rcpts.take k = m.rcpts := List.take_of_length_le (by omega)
                    rwa [this] at hk2
                  refine H.loop (X := Nat) (fun i => [(1, ptr b1), (6, num i)]) (fun i => blk b1 (m.cells a) 25 :: cs) (fun i => i ≤ a.m.n ∧ ∀ n ∈ m.marks.take i, 0 ≤ n ∧ n ≤ 2) (fun i => a.m.n - i) 0 ⟨Nat.zero_le _, by simp⟩ (by repeat (first | exact trivial | refine ⟨rfl, ?_⟩)) (fun w hw => hw) ?_
                  intro j ⟨hj1, hj2⟩
                  refine H.seq ?_
                  refine H.seq ?_
                  refine H.region ?_
                  refine Ops.quiet (Qt.move rfl) rfl ?_
                  refine Ops.quiet (Qt.fieldAddr rfl (tk rfl) rfl) rfl ?_
                  refine Ops.quiet (Qt.load rfl (tk rfl) rfl (by repeat (first | exact List.Mem.head _ | apply List.Mem.tail)) (by rfl)) rfl ?_
                  refine Ops.quiet (Qt.len_sl (ats := #[]) rfl (tk rfl)) rfl ?_
                  refine Ops.quiet (Qt.lss rfl rfl) rfl ?_
                  refine Ops.nil ?_
                  refine H.then_normal ?_
                  refine H.cond rfl (fun h85 => ?_) (fun h85 => ?_)
                  · try simp only [decide_eq_true_eq, decide_eq_false_iff_not, beq_iff_eq, beq_eq_false_iff_ne, bne_iff_ne, ne_eq, Bool.not_eq_true', Bool.not_eq_false', bne_eq_false_iff_eq, Bool.not_eq_eq_eq_not, Bool.not_true, Bool.not_false] at h85
                    refine H.skip ?_
                    refine H.then_normal ?_
                    refine H.seq ?_
                    refine H.block ?_
                    refine H.seq ?_
                    have hj3 : j < m.marks.length := by omega
                    refine H.region ?_
                    refine Ops.quiet (Qt.fieldAddr rfl (tk rfl) rfl) rfl ?_
                    refine Ops.quiet (Qt.load rfl (tk rfl) rfl (by repeat (first | exact List.Mem.head _ | apply List.Mem.tail)) (by rfl)) rfl ?_
                    refine Ops.quiet (Qt.move rfl) rfl ?_
                    refine Ops.quiet (Qt.indexAddr rfl rfl (tk rfl) (tk rfl) rfl (by repeat (first | assumption | exact Reads.of_head | apply Reads.tail)) (by omega) (by omega)) rfl ?_
                    refine Ops.quiet (Qt.load_map (0 : Int) rfl (tk rfl) rfl (by repeat (first | assumption | exact Reads.of_head | apply Reads.tail)) (by omega)) rfl ?_
                    refine Ops.quiet (Qt.lss rfl rfl) rfl ?_
                    refine Ops.quiet (Qt.move rfl) rfl ?_
                    refine Ops.guard rfl rfl rfl rfl (fun g94 => ?_) (fun g94 => ?_)
                    · have g94' := g94
                      try simp only [decide_eq_true_eq, decide_eq_false_iff_not, beq_iff_eq, beq_eq_false_iff_ne, bne_iff_ne, ne_eq, Bool.not_eq_true', Bool.not_eq_false', bne_eq_false_iff_eq, Bool.not_eq_eq_eq_not, Bool.not_true, Bool.not_false] at g94'
                      refine Ops.quiet (Qt.fieldAddr rfl (tk rfl) rfl) rfl ?_
                      refine Ops.guard_yes rfl rfl rfl rfl g94 ?_
                      refine Ops.quiet (Qt.load rfl (tk rfl) rfl (by repeat (first | exact List.Mem.head _ | apply List.Mem.tail)) (by rfl)) rfl ?_
                      refine Ops.guard_yes rfl rfl rfl rfl g94 ?_
                      refine Ops.quiet (Qt.move rfl) rfl ?_
                      refine Ops.guard_yes rfl rfl rfl rfl g94 ?_
                      refine Ops.quiet (Qt.indexAddr rfl rfl (tk rfl) (tk rfl) rfl (by repeat (first | assumption | exact Reads.of_head | apply Reads.tail)) (by omega) (by omega)) rfl ?_
                      refine Ops.guard_yes rfl rfl rfl rfl g94 ?_
                      refine Ops.quiet (Qt.load_map (0 : Int) rfl (tk rfl) rfl (by repeat (first | assumption | exact Reads.of_head | apply Reads.tail)) (by omega)) rfl ?_
                      refine Ops.guard_yes rfl rfl rfl rfl g94 ?_
                      refine Ops.quiet (Qt.gtr rfl rfl) rfl ?_
                      refine Ops.quiet (Qt.pick_f rfl rfl g94) rfl ?_
                      refine Ops.nil ?_
                      refine H.then_normal ?_
                      refine H.cond rfl (fun h101 => ?_) (fun h101 => ?_)
                      · try simp only [decide_eq_true_eq, decide_eq_false_iff_not, beq_iff_eq, beq_eq_false_iff_ne, bne_iff_ne, ne_eq, Bool.not_eq_true', Bool.not_eq_false', bne_eq_false_iff_eq, Bool.not_eq_eq_eq_not, Bool.not_true, Bool.not_false] at h101
                        refine H.seq ?_
                        refine H.region ?_
                        refine Ops.quiet (Qt.assign rfl) rfl ?_
                        refine Ops.nil ?_
                        refine H.then_normal ?_
                        refine H.ret ?_
                        refine H.blk_ret ?_
                        refine H.then_ret ?_
                        refine H.then_ret ?_
                        refine H.blk_ret ?_
                        refine H.then_ret ?_
                        refine (H.ends_to (cs' := cs) rfl (.cons (.tmp rfl) .nil) (fun w hw => ?_) ?_)
                        · exact hw.sub (by repeat (first | exact List.Sublist.refl _ | exact List.nil_sublist _ | apply List.Sublist.cons_cons | apply List.Sublist.cons))
                        · refine ⟨congrArg bol (bad_of fun h => ?_).symm, rfl⟩
                          have := h.mks _ (getD_mem 0 hj3)
                          have h34 : 2 < m.marks.getD j 0 := h101
                          omega
                      · try simp only [decide_eq_true_eq, decide_eq_false_iff_not, beq_iff_eq, beq_eq_false_iff_ne, bne_iff_ne, ne_eq, Bool.not_eq_true', Bool.not_eq_false', bne_eq_false_iff_eq, Bool.not_eq_eq_eq_not, Bool.not_true, Bool.not_false] at h101
                        refine H.skip ?_
                        refine H.blk_normal ?_
                        refine H.then_normal ?_
                        refine H.region ?_
                        refine Ops.quiet (Qt.move rfl) rfl ?_
                        refine Ops.quiet (Qt.addk rfl rfl (by first | exact IntWalk.i64_in _ (by omega) | exact IntWalk.u8_in _ (by omega) | exact IntWalk.u64_in _ (by omega) | exact IntWalk.u32_in _ (by omega) | exact IntWalk.u16_in _ (by omega))) rfl ?_
                        refine Ops.quiet (Qt.assign rfl) rfl ?_
                        refine Ops.nil ?_
                        refine H.then_normal ?_
                        refine H.round (j + 1) ⟨by omega, all_take_succ 0 hj3 hj2 (by constructor; exact Int.not_lt.1 g94'; exact Int.not_lt.1 h101)⟩ (by omega) (by repeat (first | exact trivial | refine ⟨rfl, ?_⟩)) (fun w hw => hw)
                    · have g94' := g94
                      try simp only [decide_eq_true_eq, decide_eq_false_iff_not, beq_iff_eq, beq_eq_false_iff_ne, bne_iff_ne, ne_eq, Bool.not_eq_true', Bool.not_eq_false', bne_eq_false_iff_eq, Bool.not_eq_eq_eq_not, Bool.not_true, Bool.not_false] at g94'
                      refine Ops.guard_no rfl rfl rfl rfl g94 ?_
                      refine Ops.guard_no rfl rfl rfl rfl g94 ?_
                      refine Ops.guard_no rfl rfl rfl rfl g94 ?_
                      refine Ops.guard_no rfl rfl rfl rfl g94 ?_
                      refine Ops.guard_no rfl rfl rfl rfl g94 ?_
                      refine Ops.quiet (Qt.pick_t rfl rfl g94) rfl ?_
                      refine Ops.nil ?_
                      refine H.then_normal ?_
                      refine H.cond_true rfl (by rfl) ?_
                      refine H.seq ?_
                      refine H.region ?_
                      refine Ops.quiet (Qt.assign rfl) rfl ?_
                      refine Ops.nil ?_
                      refine H.then_normal ?_
                      refine H.ret ?_
                      refine H.blk_ret ?_
                      refine H.then_ret ?_
                      refine H.then_ret ?_
                      refine H.blk_ret ?_
                      refine H.then_ret ?_
                      refine (H.ends_to (cs' := cs) rfl (.cons (.tmp rfl) .nil) (fun w hw => ?_) ?_)
                      · exact hw.sub (by repeat (first | exact List.Sublist.refl _ | exact List.nil_sublist _ | apply List.Sublist.cons_cons | apply List.Sublist.cons))
                      · refine ⟨congrArg bol (bad_of fun h => ?_).symm, rfl⟩
                        have := h.mks _ (getD_mem 0 hj3)
                        have h34 : m.marks.getD j 0 < 0 := by simpa using g94
                        omega
                  · try simp only [decide_eq_true_eq, decide_eq_false_iff_not, beq_iff_eq, beq_eq_false_iff_ne, bne_iff_ne, ne_eq, Bool.not_eq_true', Bool.not_eq_false', bne_eq_false_iff_eq, Bool.not_eq_eq_eq_not, Bool.not_true, Bool.not_false] at h85
                    refine H.exit ?_
                    refine H.then_exit ?_
                    refine H.then_exit ?_
                    refine H.blk_hit ?_
                    refine H.then_normal ?_
                    refine H.seq ?_
                    refine H.region ?_
                    refine Ops.quiet (Qt.assign rfl) rfl ?_
                    refine Ops.nil ?_
                    refine H.then_normal ?_
                    refine H.ret ?_
                    have hmk : ∀ n ∈ m.marks, 0 ≤ n ∧ n ≤ 2 := by
                      have : m.marks.take j = m.marks := List.take_of_length_le (by omega)
                      rwa [this] at hj2
                    refine (H.ends_to (cs' := cs) rfl (.cons (.tmp rfl) .nil) (fun w hw => ?_) ?_)
                    · exact hw.sub (by repeat (first | exact List.Sublist.refl _ | exact List.nil_sublist _ | apply List.Sublist.cons_cons | apply List.Sublist.cons))
                    · exact ⟨congrArg bol (goodM_iff.2 ⟨hn5, hfr, by omega, by omega, hrc, by omega, hmk, hgb⟩).symm, rfl⟩
            · have g61' := g61
              try simp only [decide_eq_true_eq, decide_eq_false_iff_not, beq_iff_eq, beq_eq_false_iff_ne, bne_iff_ne, ne_eq, Bool.not_eq_true', Bool.not_eq_false', bne_eq_false_iff_eq, Bool.not_eq_eq_eq_not, Bool.not_true, Bool.not_false] at g61'
              refine Ops.guard_no rfl rfl rfl rfl g61 ?_
              refine Ops.guard_no rfl rfl rfl rfl g61 ?_
              refine Ops.guard_no rfl rfl rfl rfl g61 ?_
              refine Ops.quiet (Qt.pick_t rfl rfl g61) rfl ?_
              refine Ops.nil ?_
              refine H.then_normal ?_
              refine H.cond_true rfl (by rfl) ?_
              refine H.seq ?_
              refine H.region ?_
              refine Ops.quiet (Qt.assign rfl) rfl ?_
              refine Ops.nil ?_
              refine H.then_normal ?_
              refine H.ret ?_
              refine H.then_ret ?_
              refine (H.ends_to (cs' := cs) rfl (.cons (.tmp rfl) .nil) (fun w hw => ?_) ?_)
              · exact hw.sub (by repeat (first | exact List.Sublist.refl _ | exact List.nil_sublist _ | apply List.Sublist.cons_cons | apply List.Sublist.cons))
              · refine ⟨congrArg bol (bad_of fun h => ?_).symm, rfl⟩
                have q1 := h.frm
                have q2 := h.r0
                have q3 := h.r1
                have q4 := h.m1
                first | omega | simp_all
          · have g55' := g55
            try simp only [decide_eq_true_eq, decide_eq_false_iff_not, beq_iff_eq, beq_eq_false_iff_ne, bne_iff_ne, ne_eq, Bool.not_eq_true', Bool.not_eq_false', bne_eq_false_iff_eq, Bool.not_eq_eq_eq_not, Bool.not_true, Bool.not_false] at g55'
            refine Ops.guard_no rfl rfl rfl rfl g55 ?_
            refine Ops.guard_no rfl rfl rfl rfl g55 ?_
            refine Ops.guard_no rfl rfl rfl rfl g55 ?_
            refine Ops.quiet (Qt.pick_t rfl rfl g55) rfl ?_
            refine Ops.quiet (Qt.move rfl) rfl ?_
            refine Ops.guard_no rfl rfl rfl rfl rfl ?_
            refine Ops.guard_no rfl rfl rfl rfl rfl ?_
            refine Ops.guard_no rfl rfl rfl rfl rfl ?_
            refine Ops.guard_no rfl rfl rfl rfl rfl ?_
            refine Ops.quiet (Qt.pick_t rfl rfl rfl) rfl ?_
            refine Ops.nil ?_
            refine H.then_normal ?_
            refine H.cond_true rfl (by rfl) ?_
            refine H.seq ?_
            refine H.region ?_
            refine Ops.quiet (Qt.assign rfl) rfl ?_
            refine Ops.nil ?_
            refine H.then_normal ?_
            refine H.ret ?_
            refine H.then_ret ?_
            refine (H.ends_to (cs' := cs) rfl (.cons (.tmp rfl) .nil) (fun w hw => ?_) ?_)
            · exact hw.sub (by repeat (first | exact List.Sublist.refl _ | exact List.nil_sublist _ | apply List.Sublist.cons_cons | apply List.Sublist.cons))
            · refine ⟨congrArg bol (bad_of fun h => ?_).symm, rfl⟩
              have q1 := h.frm
              have q2 := h.r0
              have q3 := h.r1
              have q4 := h.m1
              first | omega | simp_all
        · have g49' := g49
          try simp only [decide_eq_true_eq, decide_eq_false_iff_not, beq_iff_eq, beq_eq_false_iff_ne, bne_iff_ne, ne_eq, Bool.not_eq_true', Bool.not_eq_false', bne_eq_false_iff_eq, Bool.not_eq_eq_eq_not, Bool.not_true, Bool.not_false] at g49'
          refine Ops.guard_no rfl rfl rfl rfl g49 ?_
          refine Ops.guard_no rfl rfl rfl rfl g49 ?_
          refine Ops.guard_no rfl rfl rfl rfl g49 ?_
          refine Ops.quiet (Qt.pick_t rfl rfl g49) rfl ?_
          refine Ops.quiet (Qt.move rfl) rfl ?_
          refine Ops.guard_no rfl rfl rfl rfl rfl ?_
          refine Ops.guard_no rfl rfl rfl rfl rfl ?_
          refine Ops.guard_no rfl rfl rfl rfl rfl ?_
          refine Ops.guard_no rfl rfl rfl rfl rfl ?_
          refine Ops.quiet (Qt.pick_t rfl rfl rfl) rfl ?_
          refine Ops.quiet (Qt.move rfl) rfl ?_
          refine Ops.guard_no rfl rfl rfl rfl rfl ?_
          refine Ops.guard_no rfl rfl rfl rfl rfl ?_
          refine Ops.guard_no rfl rfl rfl rfl rfl ?_
          refine Ops.guard_no rfl rfl rfl rfl rfl ?_
          refine Ops.quiet (Qt.pick_t rfl rfl rfl) rfl ?_
          refine Ops.nil ?_
          refine H.then_normal ?_
          refine H.cond_true rfl (by rfl) ?_
          refine H.seq ?_
          refine H.region ?_
          refine Ops.quiet (Qt.assign rfl) rfl ?_
          refine Ops.nil ?_
          refine H.then_normal ?_
          refine H.ret ?_
          refine H.then_ret ?_
          refine (H.ends_to (cs' := cs) rfl (.cons (.tmp rfl) .nil) (fun w hw => ?_) ?_)
          · exact hw.sub (by repeat (first | exact List.Sublist.refl _ | exact List.nil_sublist _ | apply List.Sublist.cons_cons | apply List.Sublist.cons))
          · refine ⟨congrArg bol (bad_of fun h => ?_).symm, rfl⟩
            have q1 := h.frm
            have q2 := h.r0
            have q3 := h.r1
            have q4 := h.m1
            first | omega | simp_all
      · have g43' := g43
        try simp only [decide_eq_true_eq, decide_eq_false_iff_not, beq_iff_eq, beq_eq_false_iff_ne, bne_iff_ne, ne_eq, Bool.not_eq_true', Bool.not_eq_false', bne_eq_false_iff_eq, Bool.not_eq_eq_eq_not, Bool.not_true, Bool.not_false] at g43'
        refine Ops.guard_no rfl rfl rfl rfl g43 ?_
        refine Ops.guard_no rfl rfl rfl rfl g43 ?_
        refine Ops.guard_no rfl rfl rfl rfl g43 ?_
        refine Ops.quiet (Qt.pick_t rfl rfl g43) rfl ?_
        refine Ops.quiet (Qt.move rfl) rfl ?_
        refine Ops.guard_no rfl rfl rfl rfl rfl ?_
        refine Ops.guard_no rfl rfl rfl rfl rfl ?_
        refine Ops.guard_no rfl rfl rfl rfl rfl ?_
        refine Ops.guard_no rfl rfl rfl rfl rfl ?_
        refine Ops.quiet (Qt.pick_t rfl rfl rfl) rfl ?_
        refine Ops.quiet (Qt.move rfl) rfl ?_
        refine Ops.guard_no rfl rfl rfl rfl rfl ?_
        refine Ops.guard_no rfl rfl rfl rfl rfl ?_
        refine Ops.guard_no rfl rfl rfl rfl rfl ?_
        refine Ops.guard_no rfl rfl rfl rfl rfl ?_
        refine Ops.quiet (Qt.pick_t rfl rfl rfl) rfl ?_
        refine Ops.quiet (Qt.move rfl) rfl ?_
        refine Ops.guard_no rfl rfl rfl rfl rfl ?_
        refine Ops.guard_no rfl rfl rfl rfl rfl ?_
        refine Ops.guard_no rfl rfl rfl rfl rfl ?_
        refine Ops.guard_no rfl rfl rfl rfl rfl ?_
        refine Ops.quiet (Qt.pick_t rfl rfl rfl) rfl ?_
        refine Ops.nil ?_
        refine H.then_normal ?_
        refine H.cond_true rfl (by rfl) ?_
        refine H.seq ?_
        refine H.region ?_
        refine Ops.quiet (Qt.assign rfl) rfl ?_
        refine Ops.nil ?_
        refine H.then_normal ?_
        refine H.ret ?_
        refine H.then_ret ?_
        refine (H.ends_to (cs' := cs) rfl (.cons (.tmp rfl) .nil) (fun w hw => ?_) ?_)
        · exact hw.sub (by repeat (first | exact List.Sublist.refl _ | exact List.nil_sublist _ | apply List.Sublist.cons_cons | apply List.Sublist.cons))
        · refine ⟨congrArg bol (bad_of fun h => ?_).symm, rfl⟩
          have q1 := h.frm
          have q2 := h.r0
          have q3 := h.r1
          have q4 := h.m1
          first | omega | simp_all
    · have g37' := g37
      try simp only [decide_eq_true_eq, decide_eq_false_iff_not, beq_iff_eq, beq_eq_false_iff_ne, bne_iff_ne, ne_eq, Bool.not_eq_true', Bool.not_eq_false', bne_eq_false_iff_eq, Bool.not_eq_eq_eq_not, Bool.not_true, Bool.not_false] at g37'
      refine Ops.guard_no rfl rfl rfl rfl g37 ?_
      refine Ops.guard_no rfl rfl rfl rfl g37 ?_
      refine Ops.guard_no rfl rfl rfl rfl g37 ?_
      refine Ops.quiet (Qt.pick_f rfl rfl g37) rfl ?_
      refine Ops.quiet (Qt.move rfl) rfl ?_
      refine Ops.guard_yes rfl rfl rfl rfl rfl ?_
      refine Ops.quiet (Qt.fieldAddr rfl (tk rfl) rfl) rfl ?_
      refine Ops.guard_yes rfl rfl rfl rfl rfl ?_
      refine Ops.quiet (Qt.load rfl (tk rfl) rfl (by repeat (first | exact List.Mem.head _ | apply List.Mem.tail)) (by rfl)) rfl ?_
      refine Ops.guard_yes rfl rfl rfl rfl rfl ?_
      refine Ops.quiet (Qt.len_sl (ats := #[]) rfl (tk rfl)) rfl ?_
      refine Ops.guard_yes rfl rfl rfl rfl rfl ?_
      refine Ops.quiet (Qt.lss rfl rfl) rfl ?_
      refine Ops.quiet (Qt.pick_f rfl rfl rfl) rfl ?_
      refine Ops.quiet (Qt.move rfl) rfl ?_
      refine Ops.guard rfl rfl rfl rfl (fun g49 => ?_) (fun g49 => ?_)
      · have g49' := g49
        try simp only [decide_eq_true_eq, decide_eq_false_iff_not, beq_iff_eq, beq_eq_false_iff_ne, bne_iff_ne, ne_eq, Bool.not_eq_true', Bool.not_eq_false', bne_eq_false_iff_eq, Bool.not_eq_eq_eq_not, Bool.not_true, Bool.not_false] at g49'
        refine Ops.quiet (Qt.fieldAddr rfl (tk rfl) rfl) rfl ?_
        refine Ops.guard_yes rfl rfl rfl rfl g49 ?_
        refine Ops.quiet (Qt.load rfl (tk rfl) rfl (by repeat (first | exact List.Mem.head _ | apply List.Mem.tail)) (by rfl)) rfl ?_
        refine Ops.guard_yes rfl rfl rfl rfl g49 ?_
        refine Ops.quiet (Qt.len_sl (ats := #[]) rfl (tk rfl)) rfl ?_
        refine Ops.guard_yes rfl rfl rfl rfl g49 ?_
        refine Ops.quiet (Qt.gtr rfl rfl) rfl ?_
        refine Ops.quiet (Qt.pick_f rfl rfl g49) rfl ?_
        refine Ops.quiet (Qt.move rfl) rfl ?_
        refine Ops.guard rfl rfl rfl rfl (fun g55 => ?_) (fun g55 => ?_)
        · have g55' := g55
          try simp only [decide_eq_true_eq, decide_eq_false_iff_not, beq_iff_eq, beq_eq_false_iff_ne, bne_iff_ne, ne_eq, Bool.not_eq_true', Bool.not_eq_false', bne_eq_false_iff_eq, Bool.not_eq_eq_eq_not, Bool.not_true, Bool.not_false] at g55'
          refine Ops.quiet (Qt.fieldAddr rfl (tk rfl) rfl) rfl ?_
          refine Ops.guard_yes rfl rfl rfl rfl g55 ?_
          refine Ops.quiet (Qt.load rfl (tk rfl) rfl (by repeat (first | exact List.Mem.head _ | apply List.Mem.tail)) (by rfl)) rfl ?_
          refine Ops.guard_yes rfl rfl rfl rfl g55 ?_
          refine Ops.quiet (Qt.len_sl (ats := #[]) rfl (tk rfl)) rfl ?_
          refine Ops.guard_yes rfl rfl rfl rfl g55 ?_
          refine Ops.quiet (Qt.gtr rfl rfl) rfl ?_
          refine Ops.quiet (Qt.pick_f rfl rfl g55) rfl ?_
          refine Ops.quiet (Qt.move rfl) rfl ?_
          refine Ops.guard rfl rfl rfl rfl (fun g61 => ?_) (fun g61 => ?_)
          · have g61' := g61
            try simp only [decide_eq_true_eq, decide_eq_false_iff_not, beq_iff_eq, beq_eq_false_iff_ne, bne_iff_ne, ne_eq, Bool.not_eq_true', Bool.not_eq_false', bne_eq_false_iff_eq, Bool.not_eq_eq_eq_not, Bool.not_true, Bool.not_false] at g61'
            refine Ops.quiet (Qt.fieldAddr rfl (tk rfl) rfl) rfl ?_
            refine Ops.guard_yes rfl rfl rfl rfl g61 ?_
            refine Ops.quiet (Qt.load rfl (tk rfl) rfl (by repeat (first | exact List.Mem.head _ | apply List.Mem.tail)) (by rfl)) rfl ?_
            refine Ops.guard_yes rfl rfl rfl rfl g61 ?_
            refine Ops.eff (Ef.call (fok fab_all rfl Tryz.func19 rfl) rfl (spec_rgood w0 m.body _ (by repeat (first | assumption | exact Reads.of_head | apply Reads.tail)) (by have := hb.bn; omega) (fun s hs => by have := hb.b s hs; omega))) rfl ?_
            rintro _ c0 ⟨rfl, h0⟩; subst c0
            refine Ops.guard_yes rfl rfl rfl rfl g61 ?_
            refine Ops.quiet (Qt.not rfl) rfl ?_
            refine Ops.quiet (Qt.pick_f rfl rfl g61) rfl ?_
            refine Ops.nil ?_
            refine H.then_normal ?_
            refine H.cond rfl (fun h66 => ?_) (fun h66 => ?_)
            · try simp only [decide_eq_true_eq, decide_eq_false_iff_not, beq_iff_eq, beq_eq_false_iff_ne, bne_iff_ne, ne_eq, Bool.not_eq_true', Bool.not_eq_false', bne_eq_false_iff_eq, Bool.not_eq_eq_eq_not, Bool.not_true, Bool.not_false] at h66
              refine H.seq ?_
              refine H.region ?_
              refine Ops.quiet (Qt.assign rfl) rfl ?_
              refine Ops.nil ?_
              refine H.then_normal ?_
              refine H.ret ?_
              refine H.then_ret ?_
              refine (H.ends_to (cs' := cs) rfl (.cons (.tmp rfl) .nil) (fun w hw => ?_) ?_)
              · exact hw.sub (by repeat (first | exact List.Sublist.refl _ | exact List.nil_sublist _ | apply List.Sublist.cons_cons | apply List.Sublist.cons))
              · refine ⟨congrArg bol (bad_of fun h => ?_).symm, rfl⟩
                have q1 := h.bd
                rw [h66] at q1
                cases q1
            · try simp only [decide_eq_true_eq, decide_eq_false_iff_not, beq_iff_eq, beq_eq_false_iff_ne, bne_iff_ne, ne_eq, Bool.not_eq_true', Bool.not_eq_false', bne_eq_false_iff_eq, Bool.not_eq_eq_eq_not, Bool.not_true, Bool.not_false] at h66
              refine H.skip ?_
              refine H.then_normal ?_
              refine H.seq ?_
              refine H.seq ?_
              have hgb : goodB m.body = true := by simpa using h66
              have hfr : m.frm = [] ∨ mboxB m.frm = true := by first | (left; exact g37') | (right; simpa using g43')
              refine H.region ?_
              refine Ops.quiet (Qt.assign rfl) rfl ?_
              refine Ops.nil ?_
              refine H.then_normal ?_
              refine H.block ?_
              refine H.loop (X := Nat) (fun i => [(1, ptr b1), (5, num i)]) (fun i => blk b1 (m.cells a) 25 :: cs) (fun i => i ≤ a.r.n ∧ ∀ s ∈ m.rcpts.take i, mboxB s = true) (fun i => a.r.n - i) 0 ⟨Nat.zero_le _, by simp⟩ (by repeat (first | exact trivial | refine ⟨rfl, ?_⟩)) (fun w hw => hw.sub (by repeat (first | exact List.Sublist.refl _ | exact List.nil_sublist _ | apply List.Sublist.cons_cons | apply List.Sublist.cons))) ?_
              intro k ⟨hk1, hk2⟩
              refine H.seq ?_
              refine H.seq ?_
              refine H.region ?_
              refine Ops.quiet (Qt.move rfl) rfl ?_
              refine Ops.quiet (Qt.fieldAddr rfl (tk rfl) rfl) rfl ?_
              refine Ops.quiet (Qt.load rfl (tk rfl) rfl (by repeat (first | exact List.Mem.head _ | apply List.Mem.tail)) (by rfl)) rfl ?_
              refine Ops.quiet (Qt.len_sl (ats := #[]) rfl (tk rfl)) rfl ?_
              refine Ops.quiet (Qt.lss rfl rfl) rfl ?_
              refine Ops.nil ?_
              refine H.then_normal ?_
              refine H.cond rfl (fun h71 => ?_) (fun h71 => ?_)
              · try simp only [decide_eq_true_eq, decide_eq_false_iff_not, beq_iff_eq, beq_eq_false_iff_ne, bne_iff_ne, ne_eq, Bool.not_eq_true', Bool.not_eq_false', bne_eq_false_iff_eq, Bool.not_eq_eq_eq_not, Bool.not_true, Bool.not_false] at h71
                refine H.skip ?_
                refine H.then_normal ?_
                refine H.seq ?_
                refine H.block ?_
                refine H.seq ?_
                have hk3 : k < m.rcpts.length := by omega
                obtain ⟨s, hs⟩ : ∃ s, s = m.rcpts.getD k [] := ⟨_, rfl⟩
                have hgd : m.rcpts.getD (k : Int).toNat [] = s := hs.symm
                have hsm : s ∈ m.rcpts := hs ▸ getD_mem [] hk3
                refine H.region ?_
                refine Ops.quiet (Qt.fieldAddr rfl (tk rfl) rfl) rfl ?_
                refine Ops.quiet (Qt.load rfl (tk rfl) rfl (by repeat (first | exact List.Mem.head _ | apply List.Mem.tail)) (by rfl)) rfl ?_
                refine Ops.quiet (Qt.move rfl) rfl ?_
                refine Ops.quiet (Qt.indexAddr rfl rfl (tk rfl) (tk rfl) rfl (by repeat (first | assumption | exact Reads.of_head | apply Reads.tail)) (by omega) (by omega)) rfl ?_
                refine Ops.quiet (Qt.load_map ([] : List UInt8) rfl (tk rfl) rfl (by repeat (first | assumption | exact Reads.of_head | apply Reads.tail)) (by omega)) rfl ?_
                refine Ops.eff (Ef.call (fok fab_all rfl Tryz.func18 rfl) rfl (by rw [hgd]; exact spec_rmailbox w0 s (by have := hb.r s hsm; omega) _)) rfl ?_
                rintro _ c0 ⟨rfl, h0⟩; subst c0
                refine Ops.quiet (Qt.not rfl) rfl ?_
                refine Ops.nil ?_
                refine H.then_normal ?_
                refine H.cond rfl (fun h80 => ?_) (fun h80 => ?_)
                · try simp only [decide_eq_true_eq, decide_eq_false_iff_not, beq_iff_eq, beq_eq_false_iff_ne, bne_iff_ne, ne_eq, Bool.not_eq_true', Bool.not_eq_false', bne_eq_false_iff_eq, Bool.not_eq_eq_eq_not, Bool.not_true, Bool.not_false] at h80
                  refine H.seq ?_
                  refine H.region ?_
                  refine Ops.quiet (Qt.assign rfl) rfl ?_
                  refine Ops.nil ?_
                  refine H.then_normal ?_
                  refine H.ret ?_
                  refine H.blk_ret ?_
                  refine H.then_ret ?_
                  refine H.then_ret ?_
                  refine H.blk_ret ?_
                  refine H.then_ret ?_
                  refine (H.ends_to (cs' := cs) rfl (.cons (.tmp rfl) .nil) (fun w hw => ?_) ?_)
                  · exact hw.sub (by repeat (first | exact List.Sublist.refl _ | exact List.nil_sublist _ | apply List.Sublist.cons_cons | apply List.Sublist.cons))
                  · refine ⟨congrArg bol (bad_of fun h => ?_).symm, rfl⟩
                    have q1 := h.rc s hsm
                    rw [q1] at h80
                    cases h80
                · try simp only [decide_eq_true_eq, decide_eq_false_iff_not, beq_iff_eq, beq_eq_false_iff_ne, bne_iff_ne, ne_eq, Bool.not_eq_true', Bool.not_eq_false', bne_eq_false_iff_eq, Bool.not_eq_eq_eq_not, Bool.not_true, Bool.not_false] at h80
                  refine H.skip ?_
                  refine H.blk_normal ?_
                  refine H.then_normal ?_
                  refine H.region ?_
                  refine Ops.quiet (Qt.move rfl) rfl ?_
                  refine Ops.quiet (Qt.addk rfl rfl (by first | exact IntWalk.i64_in _ (by omega) | exact IntWalk.u8_in _ (by omega) | exact IntWalk.u64_in _ (by omega) | exact IntWalk.u32_in _ (by omega) | exact IntWalk.u16_in _ (by omega))) rfl ?_
                  refine Ops.quiet (Qt.assign rfl) rfl ?_
                  refine Ops.nil ?_
                  refine H.then_normal ?_
                  refine H.round (k + 1) ⟨by omega, all_take_succ [] hk3 hk2 (by rw [← hs]; simpa using h80)⟩ (by omega) (by repeat (first | exact trivial | refine ⟨rfl, ?_⟩)) (fun w hw => hw)
              · try simp only [decide_eq_true_eq, decide_eq_false_iff_not, beq_iff_eq, beq_eq_false_iff_ne, bne_iff_ne, ne_eq, Bool.not_eq_true', Bool.not_eq_false', bne_eq_false_iff_eq, Bool.not_eq_eq_eq_not, Bool.not_true, Bool.not_false] at h71
                refine H.exit ?_
                refine H.then_exit ?_
                refine H.then_exit ?_
                refine H.blk_hit ?_
                refine H.then_normal ?_
                refine H.seq ?_
                refine H.seq ?_
                refine H.region ?_
                refine Ops.quiet (Qt.assign rfl) rfl ?_
                refine Ops.nil ?_
                refine H.then_normal ?_
                refine H.block ?_
                have hrc : ∀ s ∈ m.rcpts, mboxB s = true := by
                  have : m.rcpts.take k = m.rcpts := List.take_of_length_le (by omega)
                  rwa [this] at hk2
                refine H.loop (X := Nat) (fun i => [(1, ptr b1), (6, num i)]) (fun i => blk b1 (m.cells a) 25 :: cs) (fun i => i ≤ a.m.n ∧ ∀ n ∈ m.marks.take i, 0 ≤ n ∧ n ≤ 2) (fun i => a.m.n - i) 0 ⟨Nat.zero_le _, by simp⟩ (by repeat (first | exact trivial | refine ⟨rfl, ?_⟩)) (fun w hw => hw) ?_
                intro j ⟨hj1, hj2⟩
                refine H.seq ?_
                refine H.seq ?_
                refine H.region ?_
                refine Ops.quiet (Qt.move rfl) rfl ?_
                refine Ops.quiet (Qt.fieldAddr rfl (tk rfl) rfl) rfl ?_
                refine Ops.quiet (Qt.load rfl (tk rfl) rfl (by repeat (first | exact List.Mem.head _ | apply List.Mem.tail)) (by rfl)) rfl ?_
                refine Ops.quiet (Qt.len_sl (ats := #[]) rfl (tk rfl)) rfl ?_
                refine Ops.quiet (Qt.lss rfl rfl) rfl ?_
                refine Ops.nil ?_
                refine H.then_normal ?_
                refine H.cond rfl (fun h85 => ?_) (fun h85 => ?_)
                · try simp only [decide_eq_true_eq, decide_eq_false_iff_not, beq_iff_eq, beq_eq_false_iff_ne, bne_iff_ne, ne_eq, Bool.not_eq_true', Bool.not_eq_false', bne_eq_false_iff_eq, Bool.not_eq_eq_eq_not, Bool.not_true, Bool.not_false] at h85
                  refine H.skip ?_
                  refine H.then_normal ?_
                  refine H.seq ?_
                  refine H.block ?_
                  refine H.seq ?_
                  have hj3 : j < m.marks.length := by omega
                  refine H.region ?_
                  refine Ops.quiet (Qt.fieldAddr rfl (tk rfl) rfl) rfl ?_
                  refine Ops.quiet (Qt.load rfl (tk rfl) rfl (by repeat (first | exact List.Mem.head _ | apply List.Mem.tail)) (by rfl)) rfl ?_
                  refine Ops.quiet (Qt.move rfl) rfl ?_
                  refine Ops.quiet (Qt.indexAddr rfl rfl (tk rfl) (tk rfl) rfl (by repeat (first | assumption | exact Reads.of_head | apply Reads.tail)) (by omega) (by omega)) rfl ?_
                  refine Ops.quiet (Qt.load_map (0 : Int) rfl (tk rfl) rfl (by repeat (first | assumption | exact Reads.of_head | apply Reads.tail)) (by omega)) rfl ?_
                  refine Ops.quiet (Qt.lss rfl rfl) rfl ?_
                  refine Ops.quiet (Qt.move rfl) rfl ?_
                  refine Ops.guard rfl rfl rfl rfl (fun g94 => ?_) (fun g94 => ?_)
                  · have g94' := g94
                    try simp only [decide_eq_true_eq, decide_eq_false_iff_not, beq_iff_eq, beq_eq_false_iff_ne, bne_iff_ne, ne_eq, Bool.not_eq_true', Bool.not_eq_false', bne_eq_false_iff_eq, Bool.not_eq_eq_eq_not, Bool.not_true, Bool.not_false] at g94'
                    refine Ops.quiet (Qt.fieldAddr rfl (tk rfl) rfl) rfl ?_
                    refine Ops.guard_yes rfl rfl rfl rfl g94 ?_
                    refine Ops.quiet (Qt.load rfl (tk rfl) rfl (by repeat (first | exact List.Mem.head _ | apply List.Mem.tail)) (by rfl)) rfl ?_
                    refine Ops.guard_yes rfl rfl rfl rfl g94 ?_
                    refine Ops.quiet (Qt.move rfl) rfl ?_
                    refine Ops.guard_yes rfl rfl rfl rfl g94 ?_
                    refine Ops.quiet (Qt.indexAddr rfl rfl (tk rfl) (tk rfl) rfl (by repeat (first | assumption | exact Reads.of_head | apply Reads.tail)) (by omega) (by omega)) rfl ?_
                    refine Ops.guard_yes rfl rfl rfl rfl g94 ?_
                    refine Ops.quiet (Qt.load_map (0 : Int) rfl (tk rfl) rfl (by repeat (first | assumption | exact Reads.of_head | apply Reads.tail)) (by omega)) rfl ?_
                    refine Ops.guard_yes rfl rfl rfl rfl g94 ?_
                    refine Ops.quiet (Qt.gtr rfl rfl) rfl ?_
                    refine Ops.quiet (Qt.pick_f rfl rfl g94) rfl ?_
                    refine Ops.nil ?_
                    refine H.then_normal ?_
                    refine H.cond rfl (fun h101 => ?_) (fun h101 => ?_)
                    · try simp only [decide_eq_true_eq, decide_eq_false_iff_not, beq_iff_eq, beq_eq_false_iff_ne, bne_iff_ne, ne_eq, Bool.not_eq_true', Bool.not_eq_false', bne_eq_false_iff_eq, Bool.not_eq_eq_eq_not, Bool.not_true, Bool.not_false] at h101
                      refine H.seq ?_
                      refine H.region ?_
                      refine Ops.quiet (Qt.assign rfl) rfl ?_
                      refine Ops.nil ?_
                      refine H.then_normal ?_
                      refine H.ret ?_
                      refine H.blk_ret ?_
                      refine H.then_ret ?_
                      refine H.then_ret ?_
                      refine H.blk_ret ?_
                      refine H.then_ret ?_
                      refine (H.ends_to (cs' := cs) rfl (.cons (.tmp rfl) .nil) (fun w hw => ?_) ?_)
                      · exact hw.sub (by repeat (first | exact List.Sublist.refl _ | exact List.nil_sublist _ | apply List.Sublist.cons_cons | apply List.Sublist.cons))
                      · refine ⟨congrArg bol (bad_of fun h => ?_).symm, rfl⟩
                        have := h.mks _ (getD_mem 0 hj3)
                        have h34 : 2 < m.marks.getD j 0 := h101
                        omega
                    · try simp only [decide_eq_true_eq, decide_eq_false_iff_not, beq_iff_eq, beq_eq_false_iff_ne, bne_iff_ne, ne_eq, Bool.not_eq_true', Bool.not_eq_false', bne_eq_false_iff_eq, Bool.not_eq_eq_eq_not, Bool.not_true, Bool.not_false] at h101
                      refine H.skip ?_
                      refine H.blk_normal ?_
                      refine H.then_normal ?_
                      refine H.region ?_
                      refine Ops.quiet (Qt.move rfl) rfl ?_
                      refine Ops.quiet (Qt.addk rfl rfl (by first | exact IntWalk.i64_in _ (by omega) | exact IntWalk.u8_in _ (by omega) | exact IntWalk.u64_in _ (by omega) | exact IntWalk.u32_in _ (by omega) | exact IntWalk.u16_in _ (by omega))) rfl ?_
                      refine Ops.quiet (Qt.assign rfl) rfl ?_
                      refine Ops.nil ?_
                      refine H.then_normal ?_
                      refine H.round (j + 1) ⟨by omega, all_take_succ 0 hj3 hj2 (by constructor; exact Int.not_lt.1 g94'; exact Int.not_lt.1 h101)⟩ (by omega) (by repeat (first | exact trivial | refine ⟨rfl, ?_⟩)) (fun w hw => hw)
                  · have g94' := g94
                    try simp only [decide_eq_true_eq, decide_eq_false_iff_not, beq_iff_eq, beq_eq_false_iff_ne, bne_iff_ne, ne_eq, Bool.not_eq_true', Bool.not_eq_false', bne_eq_false_iff_eq, Bool.not_eq_eq_eq_not, Bool.not_true, Bool.not_false] at g94'
                    refine Ops.guard_no rfl rfl rfl rfl g94 ?_
                    refine Ops.guard_no rfl rfl rfl rfl g94 ?_
                    refine Ops.guard_no rfl rfl rfl rfl g94 ?_
                    refine Ops.guard_no rfl rfl rfl rfl g94 ?_
                    refine Ops.guard_no rfl rfl rfl rfl g94 ?_
                    refine Ops.quiet (Qt.pick_t rfl rfl g94) rfl ?_
                    refine Ops.nil ?_
                    refine H.then_normal ?_
                    refine H.cond_true rfl (by rfl) ?_
                    refine H.seq ?_
                    refine H.region ?_
                    refine Ops.quiet (Qt.assign rfl) rfl ?_
                    refine Ops.nil ?_
                    refine H.then_normal ?_
                    refine H.ret ?_
                    refine H.blk_ret ?_
                    refine H.then_ret ?_
                    refine H.then_ret ?_
                    refine H.blk_ret ?_
                    refine H.then_ret ?_
                    refine (H.ends_to (cs' := cs) rfl (.cons (.tmp rfl) .nil) (fun w hw => ?_) ?_)
                    · exact hw.sub (by repeat (first | exact List.Sublist.refl _ | exact List.nil_sublist _ | apply List.Sublist.cons_cons | apply List.Sublist.cons))
                    · refine ⟨congrArg bol (bad_of fun h => ?_).symm, rfl⟩
                      have := h.mks _ (getD_mem 0 hj3)
                      have h34 : m.marks.getD j 0 < 0 := by simpa using g94
                      omega
                · try simp only [decide_eq_true_eq, decide_eq_false_iff_not, beq_iff_eq, beq_eq_false_iff_ne, bne_iff_ne, ne_eq, Bool.not_eq_true', Bool.not_eq_false', bne_eq_false_iff_eq, Bool.not_eq_eq_eq_not, Bool.not_true, Bool.not_false] at h85
                  refine H.exit ?_
                  refine H.then_exit ?_
                  refine H.then_exit ?_
                  refine H.blk_hit ?_
                  refine H.then_normal ?_
                  refine H.seq ?_
                  refine H.region ?_
                  refine Ops.quiet (Qt.assign rfl) rfl ?_
                  refine Ops.nil ?_
                  refine H.then_normal ?_
                  refine H.ret ?_
                  have hmk : ∀ n ∈ m.marks, 0 ≤ n ∧ n ≤ 2 := by
                    have : m.marks.take j = m.marks := List.take_of_length_le (by omega)
                    rwa [this] at hj2
                  refine (H.ends_to (cs' := cs) rfl (.cons (.tmp rfl) .nil) (fun w hw => ?_) ?_)
                  · exact hw.sub (by repeat (first | exact List.Sublist.refl _ | exact List.nil_sublist _ | apply List.Sublist.cons_cons | apply List.Sublist.cons))
                  · exact ⟨congrArg bol (goodM_iff.2 ⟨hn5, hfr, by omega, by omega, hrc, by omega, hmk, hgb⟩).symm, rfl⟩
          · have g61' := g61
            try simp only [decide_eq_true_eq, decide_eq_false_iff_not, beq_iff_eq, beq_eq_false_iff_ne, bne_iff_ne, ne_eq, Bool.not_eq_true', Bool.not_eq_false', bne_eq_false_iff_eq, Bool.not_eq_eq_eq_not, Bool.not_true, Bool.not_false] at g61'
            refine Ops.guard_no rfl rfl rfl rfl g61 ?_
            refine Ops.guard_no rfl rfl rfl rfl g61 ?_
            refine Ops.guard_no rfl rfl rfl rfl g61 ?_
            refine Ops.quiet (Qt.pick_t rfl rfl g61) rfl ?_
            refine Ops.nil ?_
            refine H.then_normal ?_
            refine H.cond_true rfl (by rfl) ?_
            refine H.seq ?_
            refine H.region ?_
            refine Ops.quiet (Qt.assign rfl) rfl ?_
            refine Ops.nil ?_
            refine H.then_normal ?_
            refine H.ret ?_
            refine H.then_ret ?_
            refine (H.ends_to (cs' := cs) rfl (.cons (.tmp rfl) .nil) (fun w hw => ?_) ?_)
            · exact hw.sub (by repeat (first | exact List.Sublist.refl _ | exact List.nil_sublist _ | apply List.Sublist.cons_cons | apply List.Sublist.cons))
            · refine ⟨congrArg bol (bad_of fun h => ?_).symm, rfl⟩
              have q1 := h.frm
              have q2 := h.r0
              have q3 := h.r1
              have q4 := h.m1
              first | omega | simp_all
        · have g55' := g55
          try simp only [decide_eq_true_eq, decide_eq_false_iff_not, beq_iff_eq, beq_eq_false_iff_ne, bne_iff_ne, ne_eq, Bool.not_eq_true', Bool.not_eq_false', bne_eq_false_iff_eq, Bool.not_eq_eq_eq_not, Bool.not_true, Bool.not_false] at g55'
          refine Ops.guard_no rfl rfl rfl rfl g55 ?_
          refine Ops.guard_no rfl rfl rfl rfl g55 ?_
          refine Ops.guard_no rfl rfl rfl rfl g55 ?_
          refine Ops.quiet (Qt.pick_t rfl rfl g55) rfl ?_
          refine Ops.quiet (Qt.move rfl) rfl ?_
          refine Ops.guard_no rfl rfl rfl rfl rfl ?_
          refine Ops.guard_no rfl rfl rfl rfl rfl ?_
          refine Ops.guard_no rfl rfl rfl rfl rfl ?_
          refine Ops.guard_no rfl rfl rfl rfl rfl ?_
          refine Ops.quiet (Qt.pick_t rfl rfl rfl) rfl ?_
          refine Ops.nil ?_
          refine H.then_normal ?_
          refine H.cond_true rfl (by rfl) ?_
          refine H.seq ?_
          refine H.region ?_
          refine Ops.quiet (Qt.assign rfl) rfl ?_
          refine Ops.nil ?_
          refine H.then_normal ?_
          refine H.ret ?_
          refine H.then_ret ?_
          refine (H.ends_to (cs' := cs) rfl (.cons (.tmp rfl) .nil) (fun w hw => ?_) ?_)
          · exact hw.sub (by repeat (first | exact List.Sublist.refl _ | exact List.nil_sublist _ | apply List.Sublist.cons_cons | apply List.Sublist.cons))
          · refine ⟨congrArg bol (bad_of fun h => ?_).symm, rfl⟩
            have q1 := h.frm
            have q2 := h.r0
            have q3 := h.r1
            have q4 := h.m1
            first | omega | simp_all
      · have g49' := g49
        try simp only [decide_eq_true_eq, decide_eq_false_iff_not, beq_iff_eq, beq_eq_false_iff_ne, bne_iff_ne, ne_eq, Bool.not_eq_true', Bool.not_eq_false', bne_eq_false_iff_eq, Bool.not_eq_eq_eq_not, Bool.not_true, Bool.not_false] at g49'
        refine Ops.guard_no rfl rfl rfl rfl g49 ?_
        refine Ops.guard_no rfl rfl rfl rfl g49 ?_
        refine Ops.guard_no rfl rfl rfl rfl g49 ?_
        refine Ops.quiet (Qt.pick_t rfl rfl g49) rfl ?_
        refine Ops.quiet (Qt.move rfl) rfl ?_
        refine Ops.guard_no rfl rfl rfl rfl rfl ?_
        refine Ops.guard_no rfl rfl rfl rfl rfl ?_
        refine Ops.guard_no rfl rfl rfl rfl rfl ?_
        refine Ops.guard_no rfl rfl rfl rfl rfl ?_
        refine Ops.quiet (Qt.pick_t rfl rfl rfl) rfl ?_
        refine Ops.quiet (Qt.move rfl) rfl ?_
        refine Ops.guard_no rfl rfl rfl rfl rfl ?_
        refine Ops.guard_no rfl rfl rfl rfl rfl ?_
        refine Ops.guard_no rfl rfl rfl rfl rfl ?_
        refine Ops.guard_no rfl rfl rfl rfl rfl ?_
        refine Ops.quiet (Qt.pick_t rfl rfl rfl) rfl ?_
        refine Ops.nil ?_
        refine H.then_normal ?_
        refine H.cond_true rfl (by rfl) ?_
        refine H.seq ?_
        refine H.region ?_
        refine Ops.quiet (Qt.assign rfl) rfl ?_
        refine Ops.nil ?_
        refine H.then_normal ?_
        refine H.ret ?_
        refine H.then_ret ?_
        refine (H.ends_to (cs' := cs) rfl (.cons (.tmp rfl) .nil) (fun w hw => ?_) ?_)
        · exact hw.sub (by repeat (first | exact List.Sublist.refl _ | exact List.nil_sublist _ | apply List.Sublist.cons_cons | apply List.Sublist.cons))
        · refine ⟨congrArg bol (bad_of fun h => ?_).symm, rfl⟩
          have q1 := h.frm
          have q2 := h.r0
          have q3 := h.r1
          have q4 := h.m1
          first | omega | simp_all
theorem spec_texts (w0 : World) (x y : List Bs) {A B : Option Addr} {n c k q : Nat} (cs : List SProp) (hx : Reads w0 cs A n c (x.map str)) (hy : Reads w0 cs B k q (y.map str)) :
    Spec Tryz.prog w0 22 [.slice A n c, .slice B k q] cs (fun v cs' => v = bol (x == y) ∧ cs' = cs) := by
  refine Spec.of_body Tryz.func22 rfl Tryz.ntmps22 rfl ?_
  refine H.fact (fun w hw => (hx w hw).facts) fun ⟨xl1, xl2, xl3, xl4⟩ => ?_
  refine H.fact (fun w hw => (hy w hw).facts) fun ⟨yl1, yl2, yl3, yl4⟩ => ?_
  simp only [List.length_map] at xl1 yl1
  refine H.seq ?_
  refine H.region ?_
  refine Ops.quiet (Qt.assign rfl) rfl ?_
  refine Ops.nil ?_
  refine H.then_normal ?_
  refine H.seq ?_
  refine H.seq ?_
  refine H.region ?_
  refine Ops.quiet (Qt.move rfl) rfl ?_
  refine Ops.quiet (Qt.len_sl (ats := #[]) rfl (tk rfl)) rfl ?_
  refine Ops.quiet (Qt.move rfl) rfl ?_
  refine Ops.quiet (Qt.len_sl (ats := #[]) rfl (tk rfl)) rfl ?_
  refine Ops.quiet (Qt.neq rfl rfl) rfl ?_
  refine Ops.nil ?_
  refine H.then_normal ?_
  refine H.cond rfl (fun h10 => ?_) (fun h10 => ?_)
  · try simp only [decide_eq_true_eq, decide_eq_false_iff_not, beq_iff_eq, beq_eq_false_iff_ne, bne_iff_ne, ne_eq, Bool.not_eq_true', Bool.not_eq_false', bne_eq_false_iff_eq, Bool.not_eq_eq_eq_not, Bool.not_true, Bool.not_false] at h10
    refine H.seq ?_
    refine H.region ?_
    refine Ops.quiet (Qt.assign rfl) rfl ?_
    refine Ops.nil ?_
    refine H.then_normal ?_
    refine H.ret ?_
    refine H.then_ret ?_
    refine (H.ends rfl (.cons (.tmp rfl) .nil) ?_)
    refine ⟨congrArg bol ?_, rfl⟩
    symm
    rw [beq_eq_false_iff_ne]
    intro h
    rw [h] at xl1
    omega
  · try simp only [decide_eq_true_eq, decide_eq_false_iff_not, beq_iff_eq, beq_eq_false_iff_ne, bne_iff_ne, ne_eq, Bool.not_eq_true', Bool.not_eq_false', bne_eq_false_iff_eq, Bool.not_eq_eq_eq_not, Bool.not_true, Bool.not_false] at h10
    refine H.skip ?_
    refine H.then_normal ?_
    refine H.seq ?_
    refine H.seq ?_
    refine H.region ?_
    refine Ops.quiet (Qt.assign rfl) rfl ?_
    refine Ops.nil ?_
    refine H.then_normal ?_
    refine H.block ?_
    refine H.loop (X := Nat) (fun i => [(0, .slice A n c), (1, .slice B k q), (5, num i)]) (fun i => cs) (fun i => i ≤ n ∧ x.take i = y.take i) (fun i => n - i) 0 ⟨Nat.zero_le _, rfl⟩ (by repeat (first | exact trivial | refine ⟨rfl, ?_⟩)) (fun w hw => hw) ?_
    intro i ⟨hi, ht⟩
    refine H.seq ?_
    refine H.seq ?_
    refine H.region ?_
    refine Ops.quiet (Qt.move rfl) rfl ?_
    refine Ops.quiet (Qt.move rfl) rfl ?_
    refine Ops.quiet (Qt.len_sl (ats := #[]) rfl (tk rfl)) rfl ?_
    refine Ops.quiet (Qt.lss rfl rfl) rfl ?_
    refine Ops.nil ?_
    refine H.then_normal ?_
    refine H.cond rfl (fun h14 => ?_) (fun h14 => ?_)
    · try simp only [decide_eq_true_eq, decide_eq_false_iff_not, beq_iff_eq, beq_eq_false_iff_ne, bne_iff_ne, ne_eq, Bool.not_eq_true', Bool.not_eq_false', bne_eq_false_iff_eq, Bool.not_eq_eq_eq_not, Bool.not_true, Bool.not_false] at h14
      refine H.skip ?_
      refine H.then_normal ?_
      refine H.seq ?_
      refine H.block ?_
      refine H.seq ?_
      have hi2 : i < x.length := by omega
      have hi3 : i < y.length := by omega
      refine H.drawn_all 8 mixed (by kernel_rfl) ?_
      refine Hd.quiet 0 (by kernel_rfl) rfl rfl (by kernel_rfl) rfl (Qt.move rfl) ?_
      refine Hd.quiet 1 (by kernel_rfl) rfl rfl (by kernel_rfl) rfl (Qt.move rfl) ?_
      refine Hd.quiet 2 (by kernel_rfl) rfl rfl (by kernel_rfl) rfl (Qt.indexAddr rfl rfl (tk rfl) (tk rfl) rfl hx (by omega) (by omega)) ?_
      refine Hd.quiet 3 (by kernel_rfl) rfl rfl (by kernel_rfl) rfl (Qt.load_map ([] : Bs) rfl (tk rfl) rfl hx (by omega)) ?_
      refine Hd.quiet 4 (by kernel_rfl) rfl rfl (by kernel_rfl) rfl (Qt.move rfl) ?_
      refine Hd.quiet 5 (by kernel_rfl) rfl rfl (by kernel_rfl) rfl (Qt.move rfl) ?_
      refine Hd.quiet 6 (by kernel_rfl) rfl rfl (by kernel_rfl) rfl (Qt.indexAddr rfl rfl (tk rfl) (tk rfl) rfl hy (by omega) (by omega)) ?_
      refine Hd.quiet 7 (by kernel_rfl) rfl rfl (by kernel_rfl) rfl (Qt.load_map ([] : Bs) rfl (tk rfl) rfl hy (by omega)) ?_
      refine Hd.tail (by intro w hw; first | exact hw | exact Own.sub (by repeat (first | exact List.Sublist.refl _ | exact List.nil_sublist _ | apply List.Sublist.cons_cons | apply List.Sublist.cons)) hw) (by kernel_rfl) rfl ?_
      refine Ops.quiet (Qt.sne rfl rfl) rfl ?_
      refine Ops.nil ?_
      refine H.then_normal ?_
      refine H.cond rfl (fun h25 => ?_) (fun h25 => ?_)
      · try simp only [decide_eq_true_eq, decide_eq_false_iff_not, beq_iff_eq, beq_eq_false_iff_ne, bne_iff_ne, ne_eq, Bool.not_eq_true', Bool.not_eq_false', bne_eq_false_iff_eq, Bool.not_eq_eq_eq_not, Bool.not_true, Bool.not_false] at h25
        refine H.seq ?_
        refine H.region ?_
        refine Ops.quiet (Qt.assign rfl) rfl ?_
        refine Ops.nil ?_
        refine H.then_normal ?_
        refine H.ret ?_
        refine H.blk_ret ?_
        refine H.then_ret ?_
        refine H.then_ret ?_
        refine H.blk_ret ?_
        refine H.then_ret ?_
        refine (H.ends rfl (.cons (.tmp rfl) .nil) ?_)
        refine ⟨congrArg bol ?_, rfl⟩
        symm
        rw [beq_eq_false_iff_ne]
        intro h
        rw [h] at h25
        simp at h25
      · try simp only [decide_eq_true_eq, decide_eq_false_iff_not, beq_iff_eq, beq_eq_false_iff_ne, bne_iff_ne, ne_eq, Bool.not_eq_true', Bool.not_eq_false', bne_eq_false_iff_eq, Bool.not_eq_eq_eq_not, Bool.not_true, Bool.not_false] at h25
        refine H.skip ?_
        refine H.blk_normal ?_
        refine H.then_normal ?_
        refine H.region ?_
        refine Ops.quiet (Qt.move rfl) rfl ?_
        refine Ops.quiet (Qt.addk rfl rfl (by first | exact IntWalk.i64_in _ (by omega) | exact IntWalk.u8_in _ (by omega) | exact IntWalk.u64_in _ (by omega) | exact IntWalk.u32_in _ (by omega) | exact IntWalk.u16_in _ (by omega))) rfl ?_
        refine Ops.quiet (Qt.assign rfl) rfl ?_
        refine Ops.nil ?_
        refine H.then_normal ?_
        refine H.round (i + 1) ⟨by omega, ?_⟩ (by omega) (by repeat (first | exact trivial | refine ⟨rfl, ?_⟩)) (fun w hw => hw)
        have h26 : x.getD i [] = y.getD i [] := by simpa using h25
        have h27 : x[i] = y[i] := by simpa [List.getD_eq_getElem?_getD, hi2, hi3] using h26
        rw [List.take_succ_eq_append_getElem hi2, List.take_succ_eq_append_getElem hi3, ht, h27]
    · try simp only [decide_eq_true_eq, decide_eq_false_iff_not, beq_iff_eq, beq_eq_false_iff_ne, bne_iff_ne, ne_eq, Bool.not_eq_true', Bool.not_eq_false', bne_eq_false_iff_eq, Bool.not_eq_eq_eq_not, Bool.not_true, Bool.not_false] at h14
      refine H.exit ?_
      refine H.then_exit ?_
      refine H.then_exit ?_
      refine H.blk_hit ?_
      refine H.then_normal ?_
      refine H.seq ?_
      refine H.region ?_
      refine Ops.quiet (Qt.assign rfl) rfl ?_
      refine Ops.nil ?_
      refine H.then_normal ?_
      refine H.ret ?_
      refine (H.ends rfl (.cons (.tmp rfl) .nil) ?_)
      refine ⟨congrArg bol ?_, rfl⟩
      symm
      rw [List.take_of_length_le (by omega), List.take_of_length_le (by omega)] at ht
      rw [ht]
      exact beq_self_eq_true _
theorem spec_ints (w0 : World) (x y : List Int) {A B : Option Addr} {n c k q : Nat} (cs : List SProp) (hx : Reads w0 cs A n c (x.map num)) (hy : Reads w0 cs B k q (y.map num)) :
    Spec Tryz.prog w0 23 [.slice A n c, .slice B k q] cs (fun v cs' => v = bol (x == y) ∧ cs' = cs) := by
  refine Spec.of_body Tryz.func23 rfl Tryz.ntmps23 rfl ?_
  refine H.fact (fun w hw => (hx w hw).facts) fun ⟨xl1, xl2, xl3, xl4⟩ => ?_
  refine H.fact (fun w hw => (hy w hw).facts) fun ⟨yl1, yl2, yl3, yl4⟩ => ?_
  simp only [List.length_map] at xl1 yl1
  refine H.seq ?_
  refine H.region ?_
  refine Ops.quiet (Qt.assign rfl) rfl ?_
  refine Ops.nil ?_
  refine H.then_normal ?_
  refine H.seq ?_
  refine H.seq ?_
  refine H.region ?_
  refine Ops.quiet (Qt.move rfl) rfl ?_
  refine Ops.quiet (Qt.len_sl (ats := #[]) rfl (tk rfl)) rfl ?_
  refine Ops.quiet (Qt.move rfl) rfl ?_
  refine Ops.quiet (Qt.len_sl (ats := #[]) rfl (tk rfl)) rfl ?_
  refine Ops.quiet (Qt.neq rfl rfl) rfl ?_
  refine Ops.nil ?_
  refine H.then_normal ?_
  refine H.cond rfl (fun h10 => ?_) (fun h10 => ?_)
  · try simp only [decide_eq_true_eq, decide_eq_false_iff_not, beq_iff_eq, beq_eq_false_iff_ne, bne_iff_ne, ne_eq, Bool.not_eq_true', Bool.not_eq_false', bne_eq_false_iff_eq, Bool.not_eq_eq_eq_not, Bool.not_true, Bool.not_false] at h10
    refine H.seq ?_
    refine H.region ?_
    refine Ops.quiet (Qt.assign rfl) rfl ?_
    refine Ops.nil ?_
    refine H.then_normal ?_
    refine H.ret ?_
    refine H.then_ret ?_
    refine (H.ends rfl (.cons (.tmp rfl) .nil) ?_)
    refine ⟨congrArg bol ?_, rfl⟩
    symm
    rw [beq_eq_false_iff_ne]
    intro h
    rw [h] at xl1
    omega
  · try simp only [decide_eq_true_eq, decide_eq_false_iff_not, beq_iff_eq, beq_eq_false_iff_ne, bne_iff_ne, ne_eq, Bool.not_eq_true', Bool.not_eq_false', bne_eq_false_iff_eq, Bool.not_eq_eq_eq_not, Bool.not_true, Bool.not_false] at h10
    refine H.skip ?_
    refine H.then_normal ?_
    refine H.seq ?_
    refine H.seq ?_
    refine H.region ?_
    refine Ops.quiet (Qt.assign rfl) rfl ?_
    refine Ops.nil ?_
    refine H.then_normal ?_
    refine H.block ?_
    refine H.loop (X := Nat) (fun i => [(0, .slice A n c), (1, .slice B k q), (5, num i)]) (fun i => cs) (fun i => i ≤ n ∧ x.take i = y.take i) (fun i => n - i) 0 ⟨Nat.zero_le _, rfl⟩ (by repeat (first | exact trivial | refine ⟨rfl, ?_⟩)) (fun w hw => hw) ?_
    intro i ⟨hi, ht⟩
    refine H.seq ?_
    refine H.seq ?_
    refine H.region ?_
    refine Ops.quiet (Qt.move rfl) rfl ?_
    refine Ops.quiet (Qt.move rfl) rfl ?_
    refine Ops.quiet (Qt.len_sl (ats := #[]) rfl (tk rfl)) rfl ?_
    refine Ops.quiet (Qt.lss rfl rfl) rfl ?_
    refine Ops.nil ?_
    refine H.then_normal ?_
    refine H.cond rfl (fun h14 => ?_) (fun h14 => ?_)
    · try simp only [decide_eq_true_eq, decide_eq_false_iff_not, beq_iff_eq, beq_eq_false_iff_ne, bne_iff_ne, ne_eq, Bool.not_eq_true', Bool.not_eq_false', bne_eq_false_iff_eq, Bool.not_eq_eq_eq_not, Bool.not_true, Bool.not_false] at h14
      refine H.skip ?_
      refine H.then_normal ?_
      refine H.seq ?_
      refine H.block ?_
      refine H.seq ?_
      have hi2 : i < x.length := by omega
      have hi3 : i < y.length := by omega
      refine H.drawn_all 8 mixed (by kernel_rfl) ?_
      refine Hd.quiet 0 (by kernel_rfl) rfl rfl (by kernel_rfl) rfl (Qt.move rfl) ?_
      refine Hd.quiet 1 (by kernel_rfl) rfl rfl (by kernel_rfl) rfl (Qt.move rfl) ?_
      refine Hd.quiet 2 (by kernel_rfl) rfl rfl (by kernel_rfl) rfl (Qt.indexAddr rfl rfl (tk rfl) (tk rfl) rfl hx (by omega) (by omega)) ?_
      refine Hd.quiet 3 (by kernel_rfl) rfl rfl (by kernel_rfl) rfl (Qt.load_map (0 : Int) rfl (tk rfl) rfl hx (by omega)) ?_
      refine Hd.quiet 4 (by kernel_rfl) rfl rfl (by kernel_rfl) rfl (Qt.move rfl) ?_
      refine Hd.quiet 5 (by kernel_rfl) rfl rfl (by kernel_rfl) rfl (Qt.move rfl) ?_
      refine Hd.quiet 6 (by kernel_rfl) rfl rfl (by kernel_rfl) rfl (Qt.indexAddr rfl rfl (tk rfl) (tk rfl) rfl hy (by omega) (by omega)) ?_
      refine Hd.quiet 7 (by kernel_rfl) rfl rfl (by kernel_rfl) rfl (Qt.load_map (0 : Int) rfl (tk rfl) rfl hy (by omega)) ?_
      refine Hd.tail (by intro w hw; first | exact hw | exact Own.sub (by repeat (first | exact List.Sublist.refl _ | exact List.nil_sublist _ | apply List.Sublist.cons_cons | apply List.Sublist.cons)) hw) (by kernel_rfl) rfl ?_
      refine Ops.quiet (Qt.neq rfl rfl) rfl ?_
      refine Ops.nil ?_
      refine H.then_normal ?_
      refine H.cond rfl (fun h25 => ?_) (fun h25 => ?_)
      · try simp only [decide_eq_true_eq, decide_eq_false_iff_not, beq_iff_eq, beq_eq_false_iff_ne, bne_iff_ne, ne_eq, Bool.not_eq_true', Bool.not_eq_false', bne_eq_false_iff_eq, Bool.not_eq_eq_eq_not, Bool.not_true, Bool.not_false] at h25
        refine H.seq ?_
        refine H.region ?_
        refine Ops.quiet (Qt.assign rfl) rfl ?_
        refine Ops.nil ?_
        refine H.then_normal ?_
        refine H.ret ?_
        refine H.blk_ret ?_
        refine H.then_ret ?_
        refine H.then_ret ?_
        refine H.blk_ret ?_
        refine H.then_ret ?_
        refine (H.ends rfl (.cons (.tmp rfl) .nil) ?_)
        refine ⟨congrArg bol ?_, rfl⟩
        symm
        rw [beq_eq_false_iff_ne]
        intro h
        rw [h] at h25
        simp at h25
      · try simp only [decide_eq_true_eq, decide_eq_false_iff_not, beq_iff_eq, beq_eq_false_iff_ne, bne_iff_ne, ne_eq, Bool.not_eq_true', Bool.not_eq_false', bne_eq_false_iff_eq, Bool.not_eq_eq_eq_not, Bool.not_true, Bool.not_false] at h25
        refine H.skip ?_
        refine H.blk_normal ?_
        refine H.then_normal ?_
        refine H.region ?_
        refine Ops.quiet (Qt.move rfl) rfl ?_
        refine Ops.quiet (Qt.addk rfl rfl (by first | exact IntWalk.i64_in _ (by omega) | exact IntWalk.u8_in _ (by omega) | exact IntWalk.u64_in _ (by omega) | exact IntWalk.u32_in _ (by omega) | exact IntWalk.u16_in _ (by omega))) rfl ?_
        refine Ops.quiet (Qt.assign rfl) rfl ?_
        refine Ops.nil ?_
        refine H.then_normal ?_
        refine H.round (i + 1) ⟨by omega, ?_⟩ (by omega) (by repeat (first | exact trivial | refine ⟨rfl, ?_⟩)) (fun w hw => hw)
        have h26 : x.getD i 0 = y.getD i 0 := by simpa using h25
        have h27 : x[i] = y[i] := by simpa [List.getD_eq_getElem?_getD, hi2, hi3] using h26
        rw [List.take_succ_eq_append_getElem hi2, List.take_succ_eq_append_getElem hi3, ht, h27]
    · try simp only [decide_eq_true_eq, decide_eq_false_iff_not, beq_iff_eq, beq_eq_false_iff_ne, bne_iff_ne, ne_eq, Bool.not_eq_true', Bool.not_eq_false', bne_eq_false_iff_eq, Bool.not_eq_eq_eq_not, Bool.not_true, Bool.not_false] at h14
      refine H.exit ?_
      refine H.then_exit ?_
      refine H.then_exit ?_
      refine H.blk_hit ?_
      refine H.then_normal ?_
      refine H.seq ?_
      refine H.region ?_
      refine Ops.quiet (Qt.assign rfl) rfl ?_
      refine Ops.nil ?_
      refine H.then_normal ?_
      refine H.ret ?_
      refine (H.ends rfl (.cons (.tmp rfl) .nil) ?_)
      refine ⟨congrArg bol ?_, rfl⟩
      symm
      rw [List.take_of_length_le (by omega), List.take_of_length_le (by omega)] at ht
      rw [ht]
      exact beq_self_eq_true _
/-- The same messages: where they are, it says so. -/
theorem spec_same (w0 : World) (m : Mg) (a b : Ma) (cs : List SProp) (ha : MR w0 cs m a) (hb : MR w0 cs m b) :
    Spec Tryz.prog w0 11 [m.v a, m.v b] cs (fun v cs' => v = bol true ∧ cs' = cs) := by
  obtain ⟨a1, a2, a3⟩ := ha
  obtain ⟨b1', b2', b3'⟩ := hb
  refine Spec.of_body Tryz.func11 rfl Tryz.ntmps11 rfl ?_
  refine H.seq ?_
  refine H.region ?_
  refine Ops.eff (Ef.box rfl rfl) rfl ?_
  rintro _ _ ⟨b2, rfl, rfl⟩
  refine Ops.eff (Ef.box rfl rfl) rfl ?_
  rintro _ _ ⟨b3, rfl, rfl⟩
  refine Ops.quiet (Qt.assign rfl) rfl ?_
  refine Ops.nil ?_
  refine H.then_normal ?_
  refine H.seq ?_
  refine H.region ?_
  refine Ops.quiet (Qt.fieldAddr rfl (tk rfl) rfl) rfl ?_
  refine Ops.quiet (Qt.load rfl (tk rfl) rfl (by repeat (first | exact List.Mem.head _ | apply List.Mem.tail)) (by rfl)) rfl ?_
  refine Ops.quiet (Qt.fieldAddr rfl (tk rfl) rfl) rfl ?_
  refine Ops.quiet (Qt.load rfl (tk rfl) rfl (by repeat (first | exact List.Mem.head _ | apply List.Mem.tail)) (by rfl)) rfl ?_
  refine Ops.quiet (Qt.eql rfl rfl) rfl ?_
  refine Ops.quiet (Qt.move rfl) rfl ?_
  refine Ops.guard rfl rfl rfl rfl (fun g10 => ?_) (fun g10 => ?_)
  · have g10' := g10
    try simp only [decide_eq_true_eq, decide_eq_false_iff_not, beq_iff_eq, beq_eq_false_iff_ne, bne_iff_ne, ne_eq, Bool.not_eq_true', Bool.not_eq_false', bne_eq_false_iff_eq, Bool.not_eq_eq_eq_not, Bool.not_true, Bool.not_false] at g10'
    refine Ops.quiet (Qt.fieldAddr rfl (tk rfl) rfl) rfl ?_
    refine Ops.guard_yes rfl rfl rfl rfl g10 ?_
    refine Ops.quiet (Qt.load rfl (tk rfl) rfl (by repeat (first | exact List.Mem.head _ | apply List.Mem.tail)) (by rfl)) rfl ?_
    refine Ops.guard_yes rfl rfl rfl rfl g10 ?_
    refine Ops.quiet (Qt.fieldAddr rfl (tk rfl) rfl) rfl ?_
    refine Ops.guard_yes rfl rfl rfl rfl g10 ?_
    refine Ops.quiet (Qt.load rfl (tk rfl) rfl (by repeat (first | exact List.Mem.head _ | apply List.Mem.tail)) (by rfl)) rfl ?_
    refine Ops.guard_yes rfl rfl rfl rfl g10 ?_
    refine Ops.quiet (Qt.eql rfl rfl) rfl ?_
    refine Ops.quiet (Qt.pick_t rfl rfl g10) rfl ?_
    refine Ops.quiet (Qt.move rfl) rfl ?_
    refine Ops.guard rfl rfl rfl rfl (fun g17 => ?_) (fun g17 => ?_)
    · have g17' := g17
      try simp only [decide_eq_true_eq, decide_eq_false_iff_not, beq_iff_eq, beq_eq_false_iff_ne, bne_iff_ne, ne_eq, Bool.not_eq_true', Bool.not_eq_false', bne_eq_false_iff_eq, Bool.not_eq_eq_eq_not, Bool.not_true, Bool.not_false] at g17'
      refine Ops.quiet (Qt.fieldAddr rfl (tk rfl) rfl) rfl ?_
      refine Ops.guard_yes rfl rfl rfl rfl g17 ?_
      refine Ops.quiet (Qt.load rfl (tk rfl) rfl (by repeat (first | exact List.Mem.head _ | apply List.Mem.tail)) (by rfl)) rfl ?_
      refine Ops.guard_yes rfl rfl rfl rfl g17 ?_
      refine Ops.quiet (Qt.fieldAddr rfl (tk rfl) rfl) rfl ?_
      refine Ops.guard_yes rfl rfl rfl rfl g17 ?_
      refine Ops.quiet (Qt.load rfl (tk rfl) rfl (by repeat (first | exact List.Mem.head _ | apply List.Mem.tail)) (by rfl)) rfl ?_
      refine Ops.guard_yes rfl rfl rfl rfl g17 ?_
      refine Ops.quiet (Qt.eql rfl rfl) rfl ?_
      refine Ops.quiet (Qt.pick_t rfl rfl g17) rfl ?_
      refine Ops.quiet (Qt.move rfl) rfl ?_
      refine Ops.guard rfl rfl rfl rfl (fun g24 => ?_) (fun g24 => ?_)
      · have g24' := g24
        try simp only [decide_eq_true_eq, decide_eq_false_iff_not, beq_iff_eq, beq_eq_false_iff_ne, bne_iff_ne, ne_eq, Bool.not_eq_true', Bool.not_eq_false', bne_eq_false_iff_eq, Bool.not_eq_eq_eq_not, Bool.not_true, Bool.not_false] at g24'
        refine Ops.quiet (Qt.fieldAddr rfl (tk rfl) rfl) rfl ?_
        refine Ops.guard_yes rfl rfl rfl rfl g24 ?_
        refine Ops.quiet (Qt.load rfl (tk rfl) rfl (by repeat (first | exact List.Mem.head _ | apply List.Mem.tail)) (by rfl)) rfl ?_
        refine Ops.guard_yes rfl rfl rfl rfl g24 ?_
        refine Ops.quiet (Qt.fieldAddr rfl (tk rfl) rfl) rfl ?_
        refine Ops.guard_yes rfl rfl rfl rfl g24 ?_
        refine Ops.quiet (Qt.load rfl (tk rfl) rfl (by repeat (first | exact List.Mem.head _ | apply List.Mem.tail)) (by rfl)) rfl ?_
        refine Ops.guard_yes rfl rfl rfl rfl g24 ?_
        refine Ops.quiet (Qt.eql rfl rfl) rfl ?_
        refine Ops.quiet (Qt.pick_t rfl rfl g24) rfl ?_
        refine Ops.quiet (Qt.move rfl) rfl ?_
        refine Ops.guard rfl rfl rfl rfl (fun g31 => ?_) (fun g31 => ?_)
        · have g31' := g31
          try simp only [decide_eq_true_eq, decide_eq_false_iff_not, beq_iff_eq, beq_eq_false_iff_ne, bne_iff_ne, ne_eq, Bool.not_eq_true', Bool.not_eq_false', bne_eq_false_iff_eq, Bool.not_eq_eq_eq_not, Bool.not_true, Bool.not_false] at g31'
          refine Ops.quiet (Qt.fieldAddr rfl (tk rfl) rfl) rfl ?_
          refine Ops.guard_yes rfl rfl rfl rfl g31 ?_
          refine Ops.quiet (Qt.load rfl (tk rfl) rfl (by repeat (first | exact List.Mem.head _ | apply List.Mem.tail)) (by rfl)) rfl ?_
          refine Ops.guard_yes rfl rfl rfl rfl g31 ?_
          refine Ops.quiet (Qt.fieldAddr rfl (tk rfl) rfl) rfl ?_
          refine Ops.guard_yes rfl rfl rfl rfl g31 ?_
          refine Ops.quiet (Qt.load rfl (tk rfl) rfl (by repeat (first | exact List.Mem.head _ | apply List.Mem.tail)) (by rfl)) rfl ?_
          refine Ops.guard_yes rfl rfl rfl rfl g31 ?_
          refine Ops.quiet (Qt.eql rfl rfl) rfl ?_
          refine Ops.quiet (Qt.pick_t rfl rfl g31) rfl ?_
          refine Ops.quiet (Qt.move rfl) rfl ?_
          refine Ops.guard rfl rfl rfl rfl (fun g38 => ?_) (fun g38 => ?_)
          · have g38' := g38
            try simp only [decide_eq_true_eq, decide_eq_false_iff_not, beq_iff_eq, beq_eq_false_iff_ne, bne_iff_ne, ne_eq, Bool.not_eq_true', Bool.not_eq_false', bne_eq_false_iff_eq, Bool.not_eq_eq_eq_not, Bool.not_true, Bool.not_false] at g38'
            refine Ops.quiet (Qt.fieldAddr rfl (tk rfl) rfl) rfl ?_
            refine Ops.guard_yes rfl rfl rfl rfl g38 ?_
            refine Ops.quiet (Qt.load rfl (tk rfl) rfl (by repeat (first | exact List.Mem.head _ | apply List.Mem.tail)) (by rfl)) rfl ?_
            refine Ops.guard_yes rfl rfl rfl rfl g38 ?_
            refine Ops.quiet (Qt.fieldAddr rfl (tk rfl) rfl) rfl ?_
            refine Ops.guard_yes rfl rfl rfl rfl g38 ?_
            refine Ops.quiet (Qt.load rfl (tk rfl) rfl (by repeat (first | exact List.Mem.head _ | apply List.Mem.tail)) (by rfl)) rfl ?_
            refine Ops.guard_yes rfl rfl rfl rfl g38 ?_
            refine Ops.quiet (Qt.seq rfl rfl) rfl ?_
            refine Ops.quiet (Qt.pick_t rfl rfl g38) rfl ?_
            refine Ops.quiet (Qt.move rfl) rfl ?_
            refine Ops.guard rfl rfl rfl rfl (fun g45 => ?_) (fun g45 => ?_)
            · have g45' := g45
              try simp only [decide_eq_true_eq, decide_eq_false_iff_not, beq_iff_eq, beq_eq_false_iff_ne, bne_iff_ne, ne_eq, Bool.not_eq_true', Bool.not_eq_false', bne_eq_false_iff_eq, Bool.not_eq_eq_eq_not, Bool.not_true, Bool.not_false] at g45'
              refine Ops.quiet (Qt.fieldAddr rfl (tk rfl) rfl) rfl ?_
              refine Ops.guard_yes rfl rfl rfl rfl g45 ?_
              refine Ops.quiet (Qt.load rfl (tk rfl) rfl (by repeat (first | exact List.Mem.head _ | apply List.Mem.tail)) (by rfl)) rfl ?_
              refine Ops.guard_yes rfl rfl rfl rfl g45 ?_
              refine Ops.quiet (Qt.fieldAddr rfl (tk rfl) rfl) rfl ?_
              refine Ops.guard_yes rfl rfl rfl rfl g45 ?_
              refine Ops.quiet (Qt.load rfl (tk rfl) rfl (by repeat (first | exact List.Mem.head _ | apply List.Mem.tail)) (by rfl)) rfl ?_
              refine Ops.guard_yes rfl rfl rfl rfl g45 ?_
              refine Ops.eff (Ef.call (fok fab_all rfl Tryz.func22 rfl) rfl (spec_texts w0 m.rcpts m.rcpts _ (by repeat (first | assumption | exact Reads.of_head | apply Reads.tail)) (by repeat (first | assumption | exact Reads.of_head | apply Reads.tail)))) rfl ?_
              rintro _ c0 ⟨rfl, h0⟩; subst c0
              refine Ops.quiet (Qt.pick_t rfl rfl g45) rfl ?_
              refine Ops.quiet (Qt.move rfl) rfl ?_
              refine Ops.guard rfl rfl rfl rfl (fun g52 => ?_) (fun g52 => ?_)
              · have g52' := g52
                try simp only [decide_eq_true_eq, decide_eq_false_iff_not, beq_iff_eq, beq_eq_false_iff_ne, bne_iff_ne, ne_eq, Bool.not_eq_true', Bool.not_eq_false', bne_eq_false_iff_eq, Bool.not_eq_eq_eq_not, Bool.not_true, Bool.not_false] at g52'
                refine Ops.quiet (Qt.fieldAddr rfl (tk rfl) rfl) rfl ?_
                refine Ops.guard_yes rfl rfl rfl rfl g52 ?_
                refine Ops.quiet (Qt.load rfl (tk rfl) rfl (by repeat (first | exact List.Mem.head _ | apply List.Mem.tail)) (by rfl)) rfl ?_
                refine Ops.guard_yes rfl rfl rfl rfl g52 ?_
                refine Ops.quiet (Qt.fieldAddr rfl (tk rfl) rfl) rfl ?_
                refine Ops.guard_yes rfl rfl rfl rfl g52 ?_
                refine Ops.quiet (Qt.load rfl (tk rfl) rfl (by repeat (first | exact List.Mem.head _ | apply List.Mem.tail)) (by rfl)) rfl ?_
                refine Ops.guard_yes rfl rfl rfl rfl g52 ?_
                refine Ops.eff (Ef.call (fok fab_all rfl Tryz.func23 rfl) rfl (spec_ints w0 m.marks m.marks _ (by repeat (first | assumption | exact Reads.of_head | apply Reads.tail)) (by repeat (first | assumption | exact Reads.of_head | apply Reads.tail)))) rfl ?_
                rintro _ c0 ⟨rfl, h0⟩; subst c0
                refine Ops.quiet (Qt.pick_t rfl rfl g52) rfl ?_
                refine Ops.quiet (Qt.move rfl) rfl ?_
                refine Ops.guard rfl rfl rfl rfl (fun g59 => ?_) (fun g59 => ?_)
                · have g59' := g59
                  try simp only [decide_eq_true_eq, decide_eq_false_iff_not, beq_iff_eq, beq_eq_false_iff_ne, bne_iff_ne, ne_eq, Bool.not_eq_true', Bool.not_eq_false', bne_eq_false_iff_eq, Bool.not_eq_eq_eq_not, Bool.not_true, Bool.not_false] at g59'
                  refine Ops.quiet (Qt.fieldAddr rfl (tk rfl) rfl) rfl ?_
                  refine Ops.guard_yes rfl rfl rfl rfl g59 ?_
                  refine Ops.quiet (Qt.load rfl (tk rfl) rfl (by repeat (first | exact List.Mem.head _ | apply List.Mem.tail)) (by rfl)) rfl ?_
                  refine Ops.guard_yes rfl rfl rfl rfl g59 ?_
                  refine Ops.quiet (Qt.fieldAddr rfl (tk rfl) rfl) rfl ?_
                  refine Ops.guard_yes rfl rfl rfl rfl g59 ?_
                  refine Ops.quiet (Qt.load rfl (tk rfl) rfl (by repeat (first | exact List.Mem.head _ | apply List.Mem.tail)) (by rfl)) rfl ?_
                  refine Ops.guard_yes rfl rfl rfl rfl g59 ?_
                  refine Ops.eff (Ef.call (fok fab_all rfl Tryz.func22 rfl) rfl (spec_texts w0 m.body m.body _ (by repeat (first | assumption | exact Reads.of_head | apply Reads.tail)) (by repeat (first | assumption | exact Reads.of_head | apply Reads.tail)))) rfl ?_
                  rintro _ c0 ⟨rfl, h0⟩; subst c0
                  refine Ops.quiet (Qt.pick_t rfl rfl g59) rfl ?_
                  refine Ops.quiet (Qt.assign rfl) rfl ?_
                  refine Ops.nil ?_
                  refine H.then_normal ?_
                  refine H.ret ?_
                  refine (H.ends_to (cs' := cs) rfl (.cons (.tmp rfl) .nil) (fun w hw => ?_) ?_)
                  · exact hw.sub (by repeat (first | exact List.Sublist.refl _ | exact List.nil_sublist _ | apply List.Sublist.cons_cons | apply List.Sublist.cons))
                  · exact ⟨congrArg bol (beq_self_eq_true _), rfl⟩
                · have g59' := g59
                  try simp only [decide_eq_true_eq, decide_eq_false_iff_not, beq_iff_eq, beq_eq_false_iff_ne, bne_iff_ne, ne_eq, Bool.not_eq_true', Bool.not_eq_false', bne_eq_false_iff_eq, Bool.not_eq_eq_eq_not, Bool.not_true, Bool.not_false] at g59'
                  exact absurd g59 (by simp)
              · have g52' := g52
                try simp only [decide_eq_true_eq, decide_eq_false_iff_not, beq_iff_eq, beq_eq_false_iff_ne, bne_iff_ne, ne_eq, Bool.not_eq_true', Bool.not_eq_false', bne_eq_false_iff_eq, Bool.not_eq_eq_eq_not, Bool.not_true, Bool.not_false] at g52'
                exact absurd g52 (by simp)
            · have g45' := g45
              try simp only [decide_eq_true_eq, decide_eq_false_iff_not, beq_iff_eq, beq_eq_false_iff_ne, bne_iff_ne, ne_eq, Bool.not_eq_true', Bool.not_eq_false', bne_eq_false_iff_eq, Bool.not_eq_eq_eq_not, Bool.not_true, Bool.not_false] at g45'
              exact absurd g45 (by simp)
          · have g38' := g38
            try simp only [decide_eq_true_eq, decide_eq_false_iff_not, beq_iff_eq, beq_eq_false_iff_ne, bne_iff_ne, ne_eq, Bool.not_eq_true', Bool.not_eq_false', bne_eq_false_iff_eq, Bool.not_eq_eq_eq_not, Bool.not_true, Bool.not_false] at g38'
            exact absurd g38 (by simp)
        · have g31' := g31
          try simp only [decide_eq_true_eq, decide_eq_false_iff_not, beq_iff_eq, beq_eq_false_iff_ne, bne_iff_ne, ne_eq, Bool.not_eq_true', Bool.not_eq_false', bne_eq_false_iff_eq, Bool.not_eq_eq_eq_not, Bool.not_true, Bool.not_false] at g31'
          exact absurd g31 (by simp)
      · have g24' := g24
        try simp only [decide_eq_true_eq, decide_eq_false_iff_not, beq_iff_eq, beq_eq_false_iff_ne, bne_iff_ne, ne_eq, Bool.not_eq_true', Bool.not_eq_false', bne_eq_false_iff_eq, Bool.not_eq_eq_eq_not, Bool.not_true, Bool.not_false] at g24'
        exact absurd g24 (by simp)
    · have g17' := g17
      try simp only [decide_eq_true_eq, decide_eq_false_iff_not, beq_iff_eq, beq_eq_false_iff_ne, bne_iff_ne, ne_eq, Bool.not_eq_true', Bool.not_eq_false', bne_eq_false_iff_eq, Bool.not_eq_eq_eq_not, Bool.not_true, Bool.not_false] at g17'
      exact absurd g17 (by simp)
  · have g10' := g10
    try simp only [decide_eq_true_eq, decide_eq_false_iff_not, beq_iff_eq, beq_eq_false_iff_ne, bne_iff_ne, ne_eq, Bool.not_eq_true', Bool.not_eq_false', bne_eq_false_iff_eq, Bool.not_eq_eq_eq_not, Bool.not_true, Bool.not_false] at g10'
    exact absurd g10 (by simp)
end Go.Proofs.YtbglphpinhjfeaaGreatDoor
