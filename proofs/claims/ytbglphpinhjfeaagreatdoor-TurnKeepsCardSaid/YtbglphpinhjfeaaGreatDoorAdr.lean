/- Mailboxes and domains: what they are, as plain functions; the program's functions walked against them. -/
import Derived.Test.YtbglphpinhjfeaaGreatDoorBrh
import Derived.Lib.IndexLaws
namespace Go.Proofs.YtbglphpinhjfeaaGreatDoor
open Go Go.RowKit
set_option maxRecDepth 100000
set_option linter.unusedVariables false
set_option linter.unusedSimpArgs false
attribute [local irreducible] Go.wpList Go.Code.wp Go.Exit.then Go.Exit.inBlock Go.Exit.noGoto Ends blk osl oblk LoopI Own Spec
/-! ### A text at a byte -/
def splitC (c : UInt8) : Bs → List Bs
  | [] => [[]]
  | x :: s => if x = c then [] :: splitC c s else match splitC c s with
    | [] => [[x]]
    | p :: ps => (x :: p) :: ps
theorem splitC_ne (c : UInt8) (s : Bs) : splitC c s ≠ [] := by
  cases s with
  | nil => simp [splitC]
  | cons x s =>
    unfold splitC
    split
    · simp
    · split <;> simp
theorem splitC_miss {c : UInt8} : ∀ {s : Bs}, c ∉ s → splitC c s = [s]
  | [], _ => rfl
  | x :: s, h => by
    have h1 : x ≠ c := fun e => h (e ▸ List.mem_cons_self)
    have h2 : c ∉ s := fun hm => h (List.mem_cons_of_mem _ hm)
    unfold splitC
    rw [if_neg h1, splitC_miss h2]
theorem splitC_hit {c : UInt8} : ∀ {a : Bs} (b : Bs), c ∉ a → splitC c (a ++ c :: b) = a :: splitC c b
  | [], b, _ => by simp [splitC]
  | x :: a, b, h => by
    have h1 : x ≠ c := fun e => h (e ▸ List.mem_cons_self)
    have h2 : c ∉ a := fun hm => h (List.mem_cons_of_mem _ hm)
    show splitC c (x :: (a ++ c :: b)) = _
    conv => lhs; unfold splitC
    rw [if_neg h1, splitC_hit b h2]
theorem splitC_cat (c : UInt8) : ∀ (a b : Bs), splitC c (a ++ b) = (splitC c a).dropLast ++ (match splitC c b with | [] => [] | p :: ps => ((splitC c a).getLast (splitC_ne c a) ++ p) :: ps)
  | [], b => by
    cases h : splitC c b with
    | nil => exact absurd h (splitC_ne c b)
    | cons p ps => simp [splitC, h]
  | x :: a, b => by
    have ih := splitC_cat c a b
    cases hb : splitC c b with
    | nil => exact absurd hb (splitC_ne c b)
    | cons p ps =>
      rw [hb] at ih
      simp only at ih ⊢
      by_cases hx : x = c
      · have e1 : splitC c (x :: a ++ b) = [] :: splitC c (a ++ b) := by
          show splitC c (x :: (a ++ b)) = _
          conv => lhs; unfold splitC
          rw [if_pos hx]
        have e2 : splitC c (x :: a) = [] :: splitC c a := by
          conv => lhs; unfold splitC
          rw [if_pos hx]
        rw [e1, ih]
        simp only [e2]
        rw [List.dropLast_cons_of_ne_nil (splitC_ne c a), List.getLast_cons (splitC_ne c a)]
        rfl
      · cases ha : splitC c a with
        | nil => exact absurd ha (splitC_ne c a)
        | cons q qs =>
          have e2 : splitC c (x :: a) = (x :: q) :: qs := by
            conv => lhs; unfold splitC
            rw [if_neg hx, ha]
          have e1 : splitC c (x :: a ++ b) = match splitC c (a ++ b) with | [] => [[x]] | p :: ps => (x :: p) :: ps := by
            show splitC c (x :: (a ++ b)) = _
            conv => lhs; unfold splitC
            rw [if_neg hx]
          rw [e1, ih]
          simp only [ha, e2]
          cases qs with
          | nil => simp
          | cons q2 qs => simp
/-- One byte more. -/
theorem splitC_snoc (c : UInt8) (a : Bs) (x : UInt8) : splitC c (a ++ [x]) = if x = c then splitC c a ++ [[]] else (splitC c a).dropLast ++ [(splitC c a).getLast (splitC_ne c a) ++ [x]] := by
  rw [splitC_cat]
  by_cases hx : x = c
  · have e : splitC c [x] = [[], []] := by simp [splitC, hx]
    rw [if_pos hx, e]
    simp only [List.append_nil]
    have := List.dropLast_concat_getLast (splitC_ne c a)
    conv => rhs; rw [← this]
    simp
  · have e : splitC c [x] = [[x]] := by simp [splitC, hx]
    rw [if_neg hx, e]
theorem index_one : ∀ (s : Bs) (c : UInt8), Lib.index s [c] = Lib.indexByte s c
  | [], c => rfl
  | x :: s, c => by
    unfold Lib.index Lib.indexByte
    rw [index_one s c]
    have : [c].isPrefixOf (x :: s) = (x == c) := by simp [List.isPrefixOf, eq_comm, Bool.beq_comm]
    rw [this]
theorem index_not_mem {s : Bs} {c : UInt8} (h : c ∉ s) : Lib.index s [c] = -1 := by
  rw [index_one]
  induction s with
  | nil => rfl
  | cons x s ih =>
    have h1 : x ≠ c := fun e => h (e ▸ List.mem_cons_self)
    have h2 : c ∉ s := fun hm => h (List.mem_cons_of_mem _ hm)
    unfold Lib.indexByte
    rw [if_neg (by simpa using h1), ih h2]
    rfl
theorem index_at {a : Bs} {c : UInt8} (b : Bs) (h : c ∉ a) : Lib.index (a ++ c :: b) [c] = a.length := by
  rw [index_one]
  induction a with
  | nil => simp [Lib.indexByte]
  | cons x a ih =>
    have h1 : x ≠ c := fun e => h (e ▸ List.mem_cons_self)
    have h2 : c ∉ a := fun hm => h (List.mem_cons_of_mem _ hm)
    show Lib.indexByte (x :: (a ++ c :: b)) c = _
    unfold Lib.indexByte
    rw [if_neg (by simpa using h1), ih h2]
    have : ¬ (((a.length : Int)) == -1) = true := by simp <;> omega
    rw [if_neg this]
    simp
theorem mem_split {c : UInt8} : ∀ {s : Bs}, c ∈ s → ∃ a b, s = a ++ c :: b ∧ c ∉ a
  | x :: s, h => by
    by_cases hx : x = c
    · exact ⟨[], s, by rw [hx]; rfl, by simp⟩
    · rcases List.mem_cons.1 h with h | h
      · exact absurd h.symm hx
      · obtain ⟨a, b, h1, h2⟩ := mem_split h
        exact ⟨x :: a, b, by rw [h1]; rfl, by simp [h2]; exact fun e => hx e.symm⟩
theorem cut_miss {s : Bs} {c : UInt8} (h : c ∉ s) : Lib.cut s [c] = (s, [], false) := by
  unfold Lib.cut
  rw [index_not_mem h]
  rfl
theorem cut_at {a : Bs} {c : UInt8} (b : Bs) (h : c ∉ a) : Lib.cut (a ++ c :: b) [c] = (a, b, true) := by
  unfold Lib.cut
  rw [index_at b h, if_pos (by omega)]
  simp
theorem splitK_one (c : UInt8) : ∀ (k : Nat) (s : Bs), s.length ≤ k → Lib.splitK [c] 0 k s = splitC c s
  | 0, s, h => by
    obtain rfl := List.eq_nil_of_length_eq_zero (Nat.le_zero.1 h)
    rfl
  | k + 1, s, h => by
    unfold Lib.splitK
    by_cases hm : c ∈ s
    · obtain ⟨a, b, rfl, ha⟩ := mem_split hm
      rw [index_at b ha, splitC_hit b ha]
      have : ¬ (((a.length : Int)) == -1) = true := by simp <;> omega
      rw [if_neg this]
      have e1 : (a ++ c :: b).drop ((a.length : Int).toNat + [c].length) = b := by simp
      have e2 : (a ++ c :: b).take ((a.length : Int).toNat + 0) = a := by simp
      rw [e1, e2, splitK_one c k b (by simp at h; omega)]
    · rw [index_not_mem hm, splitC_miss hm]
      rfl
theorem splitK_enough (c : UInt8) : ∀ (k m : Nat) (s : Bs), Lib.count s [c] ≤ k → Lib.count s [c] ≤ m → Lib.splitK [c] 0 k s = Lib.splitK [c] 0 m s := by
  intro k
  induction k with
  | zero =>
    intro m s hk hm
    by_cases hc : c ∈ s
    · obtain ⟨a, b, rfl, ha⟩ := mem_split hc
      have := Lib.count_hit (s := a ++ c :: b) (sub := [c]) (i := a.length) (by simp) (index_at b ha)
      omega
    · cases m with
      | zero => rfl
      | succ m => unfold Lib.splitK; rw [index_not_mem hc]; rfl
  | succ k ih =>
    intro m s hk hm
    by_cases hc : c ∈ s
    · obtain ⟨a, b, rfl, ha⟩ := mem_split hc
      have h1 := Lib.count_hit (s := a ++ c :: b) (sub := [c]) (i := a.length) (by simp) (index_at b ha)
      have e1 : (a ++ c :: b).drop (a.length + [c].length) = b := by simp
      rw [e1] at h1
      cases m with
      | zero => omega
      | succ m =>
        unfold Lib.splitK
        rw [index_at b ha]
        have : ¬ (((a.length : Int)) == -1) = true := by simp <;> omega
        rw [if_neg this, if_neg this]
        have e3 : (a ++ c :: b).drop ((a.length : Int).toNat + [c].length) = b := by simp
        rw [e3, ih m b (by omega) (by omega)]
    · cases m with
      | zero => unfold Lib.splitK; rw [index_not_mem hc]; rfl
      | succ m => unfold Lib.splitK; rw [index_not_mem hc]; rfl
theorem split_one (c : UInt8) (s : Bs) : Lib.split s [c] = splitC c s := by
  unfold Lib.split
  have hl : Lib.count s [c] ≤ s.length := Lib.countB_le ⟨⟨[c]⟩⟩ (Nat.le_refl _) s.length ⟨⟨s⟩⟩ (Nat.le_refl _)
  rw [splitK_enough c _ s.length s (Nat.le_refl _) hl, splitK_one c s.length s (Nat.le_refl _)]

/-! ### What may be -/
def letterB (c : UInt8) : Bool := decide (97 ≤ (c.toNat : Int) ∧ (c.toNat : Int) ≤ 122 ∨ 65 ≤ (c.toNat : Int) ∧ (c.toNat : Int) ≤ 90 ∨ 48 ≤ (c.toNat : Int) ∧ (c.toNat : Int) ≤ 57)
abbrev atoms : Bs := [33, 35, 36, 37, 38, 39, 42, 43, 45, 47, 61, 63, 94, 95, 96, 123, 124, 125, 126]
def atomB (c : UInt8) : Bool := letterB c || decide (0 ≤ Lib.indexByte atoms c)
def innerB (c : UInt8) : Bool := letterB c || ((c.toNat : Int) == 45)
def allB (p : UInt8 → Bool) (s : Bs) : Bool := s.all p && !(s == [])
def localB (s : Bs) : Bool := decide ((s.length : Int) ≤ 64) && !((splitC 46 s).any fun a => !(allB atomB a))
def labelB (s : Bs) : Bool := decide ((s.length : Int) ≤ 63) && (allB innerB s && (!(((s.getD 0 0).toNat : Int) == 45) && !(((s.getD (s.length - 1) 0).toNat : Int) == 45)))
def domainB (s : Bs) : Bool := decide ((s.length : Int) ≤ 255) && !((splitC 46 s).any fun a => !(labelB a))
theorem spec_letter (w0 : World) (c : UInt8) (cs : List SProp) : Spec Tryz.prog w0 119 [u8v c] cs (fun v cs' => v = bol (letterB c) ∧ cs' = cs) := by
  refine Spec.of_body Tryz.func119 rfl Tryz.ntmps119 rfl ?_
  refine H.seq ?_
  refine H.region ?_
  refine Ops.quiet (Qt.assign rfl) rfl ?_
  refine Ops.nil ?_
  refine H.then_normal ?_
  refine H.seq ?_
  refine H.region ?_
  refine Ops.quiet (Qt.move rfl) rfl ?_
  refine Ops.quiet (Qt.geq rfl rfl) rfl ?_
  refine Ops.quiet (Qt.move rfl) rfl ?_
  refine Ops.guard rfl rfl rfl rfl (fun g5 => ?_) (fun g5 => ?_)
  · have g5' := g5
    try simp only [decide_eq_true_eq, decide_eq_false_iff_not, beq_iff_eq, beq_eq_false_iff_ne, bne_iff_ne, ne_eq, Bool.not_eq_true', Bool.not_eq_false', bne_eq_false_iff_eq, Bool.not_eq_eq_eq_not, Bool.not_true, Bool.not_false] at g5'
    refine Ops.quiet (Qt.move rfl) rfl ?_
    refine Ops.guard_yes rfl rfl rfl rfl g5 ?_
    refine Ops.quiet (Qt.leq rfl rfl) rfl ?_
    refine Ops.quiet (Qt.pick_t rfl rfl g5) rfl ?_
    refine Ops.quiet (Qt.move rfl) rfl ?_
    refine Ops.guard rfl rfl rfl rfl (fun g9 => ?_) (fun g9 => ?_)
    · have g9' := g9
      try simp only [decide_eq_true_eq, decide_eq_false_iff_not, beq_iff_eq, beq_eq_false_iff_ne, bne_iff_ne, ne_eq, Bool.not_eq_true', Bool.not_eq_false', bne_eq_false_iff_eq, Bool.not_eq_eq_eq_not, Bool.not_true, Bool.not_false] at g9'
      refine Ops.quiet (Qt.move rfl) rfl ?_
      refine Ops.guard_yes rfl rfl rfl rfl g9 ?_
      refine Ops.quiet (Qt.geq rfl rfl) rfl ?_
      refine Ops.guard_yes rfl rfl rfl rfl g9 ?_
      refine Ops.quiet (Qt.move rfl) rfl ?_
      refine Ops.guard rfl rfl rfl rfl (fun g12 => ?_) (fun g12 => ?_)
      · have g12' := g12
        try simp only [decide_eq_true_eq, decide_eq_false_iff_not, beq_iff_eq, beq_eq_false_iff_ne, bne_iff_ne, ne_eq, Bool.not_eq_true', Bool.not_eq_false', bne_eq_false_iff_eq, Bool.not_eq_eq_eq_not, Bool.not_true, Bool.not_false] at g12'
        refine Ops.quiet (Qt.move rfl) rfl ?_
        refine Ops.guard_yes rfl rfl rfl rfl g12 ?_
        refine Ops.quiet (Qt.leq rfl rfl) rfl ?_
        refine Ops.guard_yes rfl rfl rfl rfl g9 ?_
        refine Ops.quiet (Qt.pick_t rfl rfl g12) rfl ?_
        refine Ops.quiet (Qt.pick_f rfl rfl g9) rfl ?_
        refine Ops.quiet (Qt.move rfl) rfl ?_
        refine Ops.guard rfl rfl rfl rfl (fun g17 => ?_) (fun g17 => ?_)
        · have g17' := g17
          try simp only [decide_eq_true_eq, decide_eq_false_iff_not, beq_iff_eq, beq_eq_false_iff_ne, bne_iff_ne, ne_eq, Bool.not_eq_true', Bool.not_eq_false', bne_eq_false_iff_eq, Bool.not_eq_eq_eq_not, Bool.not_true, Bool.not_false] at g17'
          refine Ops.quiet (Qt.move rfl) rfl ?_
          refine Ops.guard_yes rfl rfl rfl rfl g17 ?_
          refine Ops.quiet (Qt.geq rfl rfl) rfl ?_
          refine Ops.guard_yes rfl rfl rfl rfl g17 ?_
          refine Ops.quiet (Qt.move rfl) rfl ?_
          refine Ops.guard rfl rfl rfl rfl (fun g20 => ?_) (fun g20 => ?_)
          · have g20' := g20
            try simp only [decide_eq_true_eq, decide_eq_false_iff_not, beq_iff_eq, beq_eq_false_iff_ne, bne_iff_ne, ne_eq, Bool.not_eq_true', Bool.not_eq_false', bne_eq_false_iff_eq, Bool.not_eq_eq_eq_not, Bool.not_true, Bool.not_false] at g20'
            refine Ops.quiet (Qt.move rfl) rfl ?_
            refine Ops.guard_yes rfl rfl rfl rfl g20 ?_
            refine Ops.quiet (Qt.leq rfl rfl) rfl ?_
            refine Ops.guard_yes rfl rfl rfl rfl g17 ?_
            refine Ops.quiet (Qt.pick_t rfl rfl g20) rfl ?_
            refine Ops.quiet (Qt.pick_f rfl rfl g17) rfl ?_
            refine Ops.quiet (Qt.assign rfl) rfl ?_
            refine Ops.nil ?_
            refine H.then_normal ?_
            refine H.ret ?_
            refine (H.ends rfl (.cons (.tmp rfl) .nil) ?_)
            refine ⟨congrArg bol (Bool.eq_iff_iff.2 ?_), rfl⟩
            simp only [letterB, decide_eq_true_eq, Bool.false_eq_true, eq_self, true_iff, false_iff, iff_true, iff_false]
            first | omega | contradiction
          · have g20' := g20
            try simp only [decide_eq_true_eq, decide_eq_false_iff_not, beq_iff_eq, beq_eq_false_iff_ne, bne_iff_ne, ne_eq, Bool.not_eq_true', Bool.not_eq_false', bne_eq_false_iff_eq, Bool.not_eq_eq_eq_not, Bool.not_true, Bool.not_false] at g20'
            refine Ops.guard_no rfl rfl rfl rfl g20 ?_
            refine Ops.guard_yes rfl rfl rfl rfl g17 ?_
            refine Ops.quiet (Qt.pick_f rfl rfl g20) rfl ?_
            refine Ops.quiet (Qt.pick_f rfl rfl g17) rfl ?_
            refine Ops.quiet (Qt.assign rfl) rfl ?_
            refine Ops.nil ?_
            refine H.then_normal ?_
            refine H.ret ?_
            refine (H.ends rfl (.cons (.tmp rfl) .nil) ?_)
            refine ⟨congrArg bol (Bool.eq_iff_iff.2 ?_), rfl⟩
            simp only [letterB, decide_eq_true_eq, Bool.false_eq_true, eq_self, true_iff, false_iff, iff_true, iff_false]
            first | omega | contradiction
        · have g17' := g17
          try simp only [decide_eq_true_eq, decide_eq_false_iff_not, beq_iff_eq, beq_eq_false_iff_ne, bne_iff_ne, ne_eq, Bool.not_eq_true', Bool.not_eq_false', bne_eq_false_iff_eq, Bool.not_eq_eq_eq_not, Bool.not_true, Bool.not_false] at g17'
          refine Ops.guard_no rfl rfl rfl rfl g17 ?_
          refine Ops.guard_no rfl rfl rfl rfl g17 ?_
          refine Ops.guard_un rfl rfl rfl rfl ?_
          refine Ops.guard_un rfl rfl rfl rfl ?_
          refine Ops.guard_no rfl rfl rfl rfl g17 ?_
          refine Ops.quiet (Qt.pick_t rfl rfl g17) rfl ?_
          refine Ops.quiet (Qt.assign rfl) rfl ?_
          refine Ops.nil ?_
          refine H.then_normal ?_
          refine H.ret ?_
          refine (H.ends rfl (.cons (.tmp rfl) .nil) ?_)
          refine ⟨congrArg bol (Bool.eq_iff_iff.2 ?_), rfl⟩
          simp only [letterB, decide_eq_true_eq, Bool.false_eq_true, eq_self, true_iff, false_iff, iff_true, iff_false]
          first | omega | contradiction
      · have g12' := g12
        try simp only [decide_eq_true_eq, decide_eq_false_iff_not, beq_iff_eq, beq_eq_false_iff_ne, bne_iff_ne, ne_eq, Bool.not_eq_true', Bool.not_eq_false', bne_eq_false_iff_eq, Bool.not_eq_eq_eq_not, Bool.not_true, Bool.not_false] at g12'
        refine Ops.guard_no rfl rfl rfl rfl g12 ?_
        refine Ops.guard_yes rfl rfl rfl rfl g9 ?_
        refine Ops.quiet (Qt.pick_f rfl rfl g12) rfl ?_
        refine Ops.quiet (Qt.pick_f rfl rfl g9) rfl ?_
        refine Ops.quiet (Qt.move rfl) rfl ?_
        refine Ops.guard rfl rfl rfl rfl (fun g17 => ?_) (fun g17 => ?_)
        · have g17' := g17
          try simp only [decide_eq_true_eq, decide_eq_false_iff_not, beq_iff_eq, beq_eq_false_iff_ne, bne_iff_ne, ne_eq, Bool.not_eq_true', Bool.not_eq_false', bne_eq_false_iff_eq, Bool.not_eq_eq_eq_not, Bool.not_true, Bool.not_false] at g17'
          refine Ops.quiet (Qt.move rfl) rfl ?_
          refine Ops.guard_yes rfl rfl rfl rfl g17 ?_
          refine Ops.quiet (Qt.geq rfl rfl) rfl ?_
          refine Ops.guard_yes rfl rfl rfl rfl g17 ?_
          refine Ops.quiet (Qt.move rfl) rfl ?_
          refine Ops.guard rfl rfl rfl rfl (fun g20 => ?_) (fun g20 => ?_)
          · have g20' := g20
            try simp only [decide_eq_true_eq, decide_eq_false_iff_not, beq_iff_eq, beq_eq_false_iff_ne, bne_iff_ne, ne_eq, Bool.not_eq_true', Bool.not_eq_false', bne_eq_false_iff_eq, Bool.not_eq_eq_eq_not, Bool.not_true, Bool.not_false] at g20'
            refine Ops.quiet (Qt.move rfl) rfl ?_
            refine Ops.guard_yes rfl rfl rfl rfl g20 ?_
            refine Ops.quiet (Qt.leq rfl rfl) rfl ?_
            refine Ops.guard_yes rfl rfl rfl rfl g17 ?_
            refine Ops.quiet (Qt.pick_t rfl rfl g20) rfl ?_
            refine Ops.quiet (Qt.pick_f rfl rfl g17) rfl ?_
            refine Ops.quiet (Qt.assign rfl) rfl ?_
            refine Ops.nil ?_
            refine H.then_normal ?_
            refine H.ret ?_
            refine (H.ends rfl (.cons (.tmp rfl) .nil) ?_)
            refine ⟨congrArg bol (Bool.eq_iff_iff.2 ?_), rfl⟩
            simp only [letterB, decide_eq_true_eq, Bool.false_eq_true, eq_self, true_iff, false_iff, iff_true, iff_false]
            first | omega | contradiction
          · have g20' := g20
            try simp only [decide_eq_true_eq, decide_eq_false_iff_not, beq_iff_eq, beq_eq_false_iff_ne, bne_iff_ne, ne_eq, Bool.not_eq_true', Bool.not_eq_false', bne_eq_false_iff_eq, Bool.not_eq_eq_eq_not, Bool.not_true, Bool.not_false] at g20'
            refine Ops.guard_no rfl rfl rfl rfl g20 ?_
            refine Ops.guard_yes rfl rfl rfl rfl g17 ?_
            refine Ops.quiet (Qt.pick_f rfl rfl g20) rfl ?_
            refine Ops.quiet (Qt.pick_f rfl rfl g17) rfl ?_
            refine Ops.quiet (Qt.assign rfl) rfl ?_
            refine Ops.nil ?_
            refine H.then_normal ?_
            refine H.ret ?_
            refine (H.ends rfl (.cons (.tmp rfl) .nil) ?_)
            refine ⟨congrArg bol (Bool.eq_iff_iff.2 ?_), rfl⟩
            simp only [letterB, decide_eq_true_eq, Bool.false_eq_true, eq_self, true_iff, false_iff, iff_true, iff_false]
            first | omega | contradiction
        · have g17' := g17
          try simp only [decide_eq_true_eq, decide_eq_false_iff_not, beq_iff_eq, beq_eq_false_iff_ne, bne_iff_ne, ne_eq, Bool.not_eq_true', Bool.not_eq_false', bne_eq_false_iff_eq, Bool.not_eq_eq_eq_not, Bool.not_true, Bool.not_false] at g17'
          refine Ops.guard_no rfl rfl rfl rfl g17 ?_
          refine Ops.guard_no rfl rfl rfl rfl g17 ?_
          refine Ops.guard_un rfl rfl rfl rfl ?_
          refine Ops.guard_un rfl rfl rfl rfl ?_
          refine Ops.guard_no rfl rfl rfl rfl g17 ?_
          refine Ops.quiet (Qt.pick_t rfl rfl g17) rfl ?_
          refine Ops.quiet (Qt.assign rfl) rfl ?_
          refine Ops.nil ?_
          refine H.then_normal ?_
          refine H.ret ?_
          refine (H.ends rfl (.cons (.tmp rfl) .nil) ?_)
          refine ⟨congrArg bol (Bool.eq_iff_iff.2 ?_), rfl⟩
          simp only [letterB, decide_eq_true_eq, Bool.false_eq_true, eq_self, true_iff, false_iff, iff_true, iff_false]
          first | omega | contradiction
    · have g9' := g9
      try simp only [decide_eq_true_eq, decide_eq_false_iff_not, beq_iff_eq, beq_eq_false_iff_ne, bne_iff_ne, ne_eq, Bool.not_eq_true', Bool.not_eq_false', bne_eq_false_iff_eq, Bool.not_eq_eq_eq_not, Bool.not_true, Bool.not_false] at g9'
      refine Ops.guard_no rfl rfl rfl rfl g9 ?_
      refine Ops.guard_no rfl rfl rfl rfl g9 ?_
      refine Ops.guard_un rfl rfl rfl rfl ?_
      refine Ops.guard_un rfl rfl rfl rfl ?_
      refine Ops.guard_no rfl rfl rfl rfl g9 ?_
      refine Ops.quiet (Qt.pick_t rfl rfl g9) rfl ?_
      refine Ops.quiet (Qt.move rfl) rfl ?_
      refine Ops.guard rfl rfl rfl rfl (fun g17 => ?_) (fun g17 => ?_)
      · have g17' := g17
        try simp only [decide_eq_true_eq, decide_eq_false_iff_not, beq_iff_eq, beq_eq_false_iff_ne, bne_iff_ne, ne_eq, Bool.not_eq_true', Bool.not_eq_false', bne_eq_false_iff_eq, Bool.not_eq_eq_eq_not, Bool.not_true, Bool.not_false] at g17'
        refine Ops.quiet (Qt.move rfl) rfl ?_
        refine Ops.guard_yes rfl rfl rfl rfl g17 ?_
        refine Ops.quiet (Qt.geq rfl rfl) rfl ?_
        refine Ops.guard_yes rfl rfl rfl rfl g17 ?_
        refine Ops.quiet (Qt.move rfl) rfl ?_
        refine Ops.guard rfl rfl rfl rfl (fun g20 => ?_) (fun g20 => ?_)
        · have g20' := g20
          try simp only [decide_eq_true_eq, decide_eq_false_iff_not, beq_iff_eq, beq_eq_false_iff_ne, bne_iff_ne, ne_eq, Bool.not_eq_true', Bool.not_eq_false', bne_eq_false_iff_eq, Bool.not_eq_eq_eq_not, Bool.not_true, Bool.not_false] at g20'
          refine Ops.quiet (Qt.move rfl) rfl ?_
          refine Ops.guard_yes rfl rfl rfl rfl g20 ?_
          refine Ops.quiet (Qt.leq rfl rfl) rfl ?_
          refine Ops.guard_yes rfl rfl rfl rfl g17 ?_
          refine Ops.quiet (Qt.pick_t rfl rfl g20) rfl ?_
          refine Ops.quiet (Qt.pick_f rfl rfl g17) rfl ?_
          refine Ops.quiet (Qt.assign rfl) rfl ?_
          refine Ops.nil ?_
          refine H.then_normal ?_
          refine H.ret ?_
          refine (H.ends rfl (.cons (.tmp rfl) .nil) ?_)
          refine ⟨congrArg bol (Bool.eq_iff_iff.2 ?_), rfl⟩
          simp only [letterB, decide_eq_true_eq, Bool.false_eq_true, eq_self, true_iff, false_iff, iff_true, iff_false]
          first | omega | contradiction
        · have g20' := g20
          try simp only [decide_eq_true_eq, decide_eq_false_iff_not, beq_iff_eq, beq_eq_false_iff_ne, bne_iff_ne, ne_eq, Bool.not_eq_true', Bool.not_eq_false', bne_eq_false_iff_eq, Bool.not_eq_eq_eq_not, Bool.not_true, Bool.not_false] at g20'
          refine Ops.guard_no rfl rfl rfl rfl g20 ?_
          refine Ops.guard_yes rfl rfl rfl rfl g17 ?_
          refine Ops.quiet (Qt.pick_f rfl rfl g20) rfl ?_
          refine Ops.quiet (Qt.pick_f rfl rfl g17) rfl ?_
          refine Ops.quiet (Qt.assign rfl) rfl ?_
          refine Ops.nil ?_
          refine H.then_normal ?_
          refine H.ret ?_
          refine (H.ends rfl (.cons (.tmp rfl) .nil) ?_)
          refine ⟨congrArg bol (Bool.eq_iff_iff.2 ?_), rfl⟩
          simp only [letterB, decide_eq_true_eq, Bool.false_eq_true, eq_self, true_iff, false_iff, iff_true, iff_false]
          first | omega | contradiction
      · have g17' := g17
        try simp only [decide_eq_true_eq, decide_eq_false_iff_not, beq_iff_eq, beq_eq_false_iff_ne, bne_iff_ne, ne_eq, Bool.not_eq_true', Bool.not_eq_false', bne_eq_false_iff_eq, Bool.not_eq_eq_eq_not, Bool.not_true, Bool.not_false] at g17'
        refine Ops.guard_no rfl rfl rfl rfl g17 ?_
        refine Ops.guard_no rfl rfl rfl rfl g17 ?_
        refine Ops.guard_un rfl rfl rfl rfl ?_
        refine Ops.guard_un rfl rfl rfl rfl ?_
        refine Ops.guard_no rfl rfl rfl rfl g17 ?_
        refine Ops.quiet (Qt.pick_t rfl rfl g17) rfl ?_
        refine Ops.quiet (Qt.assign rfl) rfl ?_
        refine Ops.nil ?_
        refine H.then_normal ?_
        refine H.ret ?_
        refine (H.ends rfl (.cons (.tmp rfl) .nil) ?_)
        refine ⟨congrArg bol (Bool.eq_iff_iff.2 ?_), rfl⟩
        simp only [letterB, decide_eq_true_eq, Bool.false_eq_true, eq_self, true_iff, false_iff, iff_true, iff_false]
        first | omega | contradiction
  · have g5' := g5
    try simp only [decide_eq_true_eq, decide_eq_false_iff_not, beq_iff_eq, beq_eq_false_iff_ne, bne_iff_ne, ne_eq, Bool.not_eq_true', Bool.not_eq_false', bne_eq_false_iff_eq, Bool.not_eq_eq_eq_not, Bool.not_true, Bool.not_false] at g5'
    refine Ops.guard_no rfl rfl rfl rfl g5 ?_
    refine Ops.quiet (Qt.pick_f rfl rfl g5) rfl ?_
    refine Ops.quiet (Qt.move rfl) rfl ?_
    refine Ops.guard rfl rfl rfl rfl (fun g9 => ?_) (fun g9 => ?_)
    · have g9' := g9
      try simp only [decide_eq_true_eq, decide_eq_false_iff_not, beq_iff_eq, beq_eq_false_iff_ne, bne_iff_ne, ne_eq, Bool.not_eq_true', Bool.not_eq_false', bne_eq_false_iff_eq, Bool.not_eq_eq_eq_not, Bool.not_true, Bool.not_false] at g9'
      refine Ops.quiet (Qt.move rfl) rfl ?_
      refine Ops.guard_yes rfl rfl rfl rfl g9 ?_
      refine Ops.quiet (Qt.geq rfl rfl) rfl ?_
      refine Ops.guard_yes rfl rfl rfl rfl g9 ?_
      refine Ops.quiet (Qt.move rfl) rfl ?_
      refine Ops.guard rfl rfl rfl rfl (fun g12 => ?_) (fun g12 => ?_)
      · have g12' := g12
        try simp only [decide_eq_true_eq, decide_eq_false_iff_not, beq_iff_eq, beq_eq_false_iff_ne, bne_iff_ne, ne_eq, Bool.not_eq_true', Bool.not_eq_false', bne_eq_false_iff_eq, Bool.not_eq_eq_eq_not, Bool.not_true, Bool.not_false] at g12'
        refine Ops.quiet (Qt.move rfl) rfl ?_
        refine Ops.guard_yes rfl rfl rfl rfl g12 ?_
        refine Ops.quiet (Qt.leq rfl rfl) rfl ?_
        refine Ops.guard_yes rfl rfl rfl rfl g9 ?_
        refine Ops.quiet (Qt.pick_t rfl rfl g12) rfl ?_
        refine Ops.quiet (Qt.pick_f rfl rfl g9) rfl ?_
        refine Ops.quiet (Qt.move rfl) rfl ?_
        refine Ops.guard rfl rfl rfl rfl (fun g17 => ?_) (fun g17 => ?_)
        · have g17' := g17
          try simp only [decide_eq_true_eq, decide_eq_false_iff_not, beq_iff_eq, beq_eq_false_iff_ne, bne_iff_ne, ne_eq, Bool.not_eq_true', Bool.not_eq_false', bne_eq_false_iff_eq, Bool.not_eq_eq_eq_not, Bool.not_true, Bool.not_false] at g17'
          refine Ops.quiet (Qt.move rfl) rfl ?_
          refine Ops.guard_yes rfl rfl rfl rfl g17 ?_
          refine Ops.quiet (Qt.geq rfl rfl) rfl ?_
          refine Ops.guard_yes rfl rfl rfl rfl g17 ?_
          refine Ops.quiet (Qt.move rfl) rfl ?_
          refine Ops.guard rfl rfl rfl rfl (fun g20 => ?_) (fun g20 => ?_)
          · have g20' := g20
            try simp only [decide_eq_true_eq, decide_eq_false_iff_not, beq_iff_eq, beq_eq_false_iff_ne, bne_iff_ne, ne_eq, Bool.not_eq_true', Bool.not_eq_false', bne_eq_false_iff_eq, Bool.not_eq_eq_eq_not, Bool.not_true, Bool.not_false] at g20'
            refine Ops.quiet (Qt.move rfl) rfl ?_
            refine Ops.guard_yes rfl rfl rfl rfl g20 ?_
            refine Ops.quiet (Qt.leq rfl rfl) rfl ?_
            refine Ops.guard_yes rfl rfl rfl rfl g17 ?_
            refine Ops.quiet (Qt.pick_t rfl rfl g20) rfl ?_
            refine Ops.quiet (Qt.pick_f rfl rfl g17) rfl ?_
            refine Ops.quiet (Qt.assign rfl) rfl ?_
            refine Ops.nil ?_
            refine H.then_normal ?_
            refine H.ret ?_
            refine (H.ends rfl (.cons (.tmp rfl) .nil) ?_)
            refine ⟨congrArg bol (Bool.eq_iff_iff.2 ?_), rfl⟩
            simp only [letterB, decide_eq_true_eq, Bool.false_eq_true, eq_self, true_iff, false_iff, iff_true, iff_false]
            first | omega | contradiction
          · have g20' := g20
            try simp only [decide_eq_true_eq, decide_eq_false_iff_not, beq_iff_eq, beq_eq_false_iff_ne, bne_iff_ne, ne_eq, Bool.not_eq_true', Bool.not_eq_false', bne_eq_false_iff_eq, Bool.not_eq_eq_eq_not, Bool.not_true, Bool.not_false] at g20'
            refine Ops.guard_no rfl rfl rfl rfl g20 ?_
            refine Ops.guard_yes rfl rfl rfl rfl g17 ?_
            refine Ops.quiet (Qt.pick_f rfl rfl g20) rfl ?_
            refine Ops.quiet (Qt.pick_f rfl rfl g17) rfl ?_
            refine Ops.quiet (Qt.assign rfl) rfl ?_
            refine Ops.nil ?_
            refine H.then_normal ?_
            refine H.ret ?_
            refine (H.ends rfl (.cons (.tmp rfl) .nil) ?_)
            refine ⟨congrArg bol (Bool.eq_iff_iff.2 ?_), rfl⟩
            simp only [letterB, decide_eq_true_eq, Bool.false_eq_true, eq_self, true_iff, false_iff, iff_true, iff_false]
            first | omega | contradiction
        · have g17' := g17
          try simp only [decide_eq_true_eq, decide_eq_false_iff_not, beq_iff_eq, beq_eq_false_iff_ne, bne_iff_ne, ne_eq, Bool.not_eq_true', Bool.not_eq_false', bne_eq_false_iff_eq, Bool.not_eq_eq_eq_not, Bool.not_true, Bool.not_false] at g17'
          refine Ops.guard_no rfl rfl rfl rfl g17 ?_
          refine Ops.guard_no rfl rfl rfl rfl g17 ?_
          refine Ops.guard_un rfl rfl rfl rfl ?_
          refine Ops.guard_un rfl rfl rfl rfl ?_
          refine Ops.guard_no rfl rfl rfl rfl g17 ?_
          refine Ops.quiet (Qt.pick_t rfl rfl g17) rfl ?_
          refine Ops.quiet (Qt.assign rfl) rfl ?_
          refine Ops.nil ?_
          refine H.then_normal ?_
          refine H.ret ?_
          refine (H.ends rfl (.cons (.tmp rfl) .nil) ?_)
          refine ⟨congrArg bol (Bool.eq_iff_iff.2 ?_), rfl⟩
          simp only [letterB, decide_eq_true_eq, Bool.false_eq_true, eq_self, true_iff, false_iff, iff_true, iff_false]
          first | omega | contradiction
      · have g12' := g12
        try simp only [decide_eq_true_eq, decide_eq_false_iff_not, beq_iff_eq, beq_eq_false_iff_ne, bne_iff_ne, ne_eq, Bool.not_eq_true', Bool.not_eq_false', bne_eq_false_iff_eq, Bool.not_eq_eq_eq_not, Bool.not_true, Bool.not_false] at g12'
        refine Ops.guard_no rfl rfl rfl rfl g12 ?_
        refine Ops.guard_yes rfl rfl rfl rfl g9 ?_
        refine Ops.quiet (Qt.pick_f rfl rfl g12) rfl ?_
        refine Ops.quiet (Qt.pick_f rfl rfl g9) rfl ?_
        refine Ops.quiet (Qt.move rfl) rfl ?_
        refine Ops.guard rfl rfl rfl rfl (fun g17 => ?_) (fun g17 => ?_)
        · have g17' := g17
          try simp only [decide_eq_true_eq, decide_eq_false_iff_not, beq_iff_eq, beq_eq_false_iff_ne, bne_iff_ne, ne_eq, Bool.not_eq_true', Bool.not_eq_false', bne_eq_false_iff_eq, Bool.not_eq_eq_eq_not, Bool.not_true, Bool.not_false] at g17'
          refine Ops.quiet (Qt.move rfl) rfl ?_
          refine Ops.guard_yes rfl rfl rfl rfl g17 ?_
          refine Ops.quiet (Qt.geq rfl rfl) rfl ?_
          refine Ops.guard_yes rfl rfl rfl rfl g17 ?_
          refine Ops.quiet (Qt.move rfl) rfl ?_
          refine Ops.guard rfl rfl rfl rfl (fun g20 => ?_) (fun g20 => ?_)
          · have g20' := g20
            try simp only [decide_eq_true_eq, decide_eq_false_iff_not, beq_iff_eq, beq_eq_false_iff_ne, bne_iff_ne, ne_eq, Bool.not_eq_true', Bool.not_eq_false', bne_eq_false_iff_eq, Bool.not_eq_eq_eq_not, Bool.not_true, Bool.not_false] at g20'
            refine Ops.quiet (Qt.move rfl) rfl ?_
            refine Ops.guard_yes rfl rfl rfl rfl g20 ?_
            refine Ops.quiet (Qt.leq rfl rfl) rfl ?_
            refine Ops.guard_yes rfl rfl rfl rfl g17 ?_
            refine Ops.quiet (Qt.pick_t rfl rfl g20) rfl ?_
            refine Ops.quiet (Qt.pick_f rfl rfl g17) rfl ?_
            refine Ops.quiet (Qt.assign rfl) rfl ?_
            refine Ops.nil ?_
            refine H.then_normal ?_
            refine H.ret ?_
            refine (H.ends rfl (.cons (.tmp rfl) .nil) ?_)
            refine ⟨congrArg bol (Bool.eq_iff_iff.2 ?_), rfl⟩
            simp only [letterB, decide_eq_true_eq, Bool.false_eq_true, eq_self, true_iff, false_iff, iff_true, iff_false]
            first | omega | contradiction
          · have g20' := g20
            try simp only [decide_eq_true_eq, decide_eq_false_iff_not, beq_iff_eq, beq_eq_false_iff_ne, bne_iff_ne, ne_eq, Bool.not_eq_true', Bool.not_eq_false', bne_eq_false_iff_eq, Bool.not_eq_eq_eq_not, Bool.not_true, Bool.not_false] at g20'
            refine Ops.guard_no rfl rfl rfl rfl g20 ?_
            refine Ops.guard_yes rfl rfl rfl rfl g17 ?_
            refine Ops.quiet (Qt.pick_f rfl rfl g20) rfl ?_
            refine Ops.quiet (Qt.pick_f rfl rfl g17) rfl ?_
            refine Ops.quiet (Qt.assign rfl) rfl ?_
            refine Ops.nil ?_
            refine H.then_normal ?_
            refine H.ret ?_
            refine (H.ends rfl (.cons (.tmp rfl) .nil) ?_)
            refine ⟨congrArg bol (Bool.eq_iff_iff.2 ?_), rfl⟩
            simp only [letterB, decide_eq_true_eq, Bool.false_eq_true, eq_self, true_iff, false_iff, iff_true, iff_false]
            first | omega | contradiction
        · have g17' := g17
          try simp only [decide_eq_true_eq, decide_eq_false_iff_not, beq_iff_eq, beq_eq_false_iff_ne, bne_iff_ne, ne_eq, Bool.not_eq_true', Bool.not_eq_false', bne_eq_false_iff_eq, Bool.not_eq_eq_eq_not, Bool.not_true, Bool.not_false] at g17'
          refine Ops.guard_no rfl rfl rfl rfl g17 ?_
          refine Ops.guard_no rfl rfl rfl rfl g17 ?_
          refine Ops.guard_un rfl rfl rfl rfl ?_
          refine Ops.guard_un rfl rfl rfl rfl ?_
          refine Ops.guard_no rfl rfl rfl rfl g17 ?_
          refine Ops.quiet (Qt.pick_t rfl rfl g17) rfl ?_
          refine Ops.quiet (Qt.assign rfl) rfl ?_
          refine Ops.nil ?_
          refine H.then_normal ?_
          refine H.ret ?_
          refine (H.ends rfl (.cons (.tmp rfl) .nil) ?_)
          refine ⟨congrArg bol (Bool.eq_iff_iff.2 ?_), rfl⟩
          simp only [letterB, decide_eq_true_eq, Bool.false_eq_true, eq_self, true_iff, false_iff, iff_true, iff_false]
          first | omega | contradiction
    · have g9' := g9
      try simp only [decide_eq_true_eq, decide_eq_false_iff_not, beq_iff_eq, beq_eq_false_iff_ne, bne_iff_ne, ne_eq, Bool.not_eq_true', Bool.not_eq_false', bne_eq_false_iff_eq, Bool.not_eq_eq_eq_not, Bool.not_true, Bool.not_false] at g9'
      refine Ops.guard_no rfl rfl rfl rfl g9 ?_
      refine Ops.guard_no rfl rfl rfl rfl g9 ?_
      refine Ops.guard_un rfl rfl rfl rfl ?_
      refine Ops.guard_un rfl rfl rfl rfl ?_
      refine Ops.guard_no rfl rfl rfl rfl g9 ?_
      refine Ops.quiet (Qt.pick_t rfl rfl g9) rfl ?_
      refine Ops.quiet (Qt.move rfl) rfl ?_
      refine Ops.guard rfl rfl rfl rfl (fun g17 => ?_) (fun g17 => ?_)
      · have g17' := g17
        try simp only [decide_eq_true_eq, decide_eq_false_iff_not, beq_iff_eq, beq_eq_false_iff_ne, bne_iff_ne, ne_eq, Bool.not_eq_true', Bool.not_eq_false', bne_eq_false_iff_eq, Bool.not_eq_eq_eq_not, Bool.not_true, Bool.not_false] at g17'
        refine Ops.quiet (Qt.move rfl) rfl ?_
        refine Ops.guard_yes rfl rfl rfl rfl g17 ?_
        refine Ops.quiet (Qt.geq rfl rfl) rfl ?_
        refine Ops.guard_yes rfl rfl rfl rfl g17 ?_
        refine Ops.quiet (Qt.move rfl) rfl ?_
        refine Ops.guard rfl rfl rfl rfl (fun g20 => ?_) (fun g20 => ?_)
        · have g20' := g20
          try simp only [decide_eq_true_eq, decide_eq_false_iff_not, beq_iff_eq, beq_eq_false_iff_ne, bne_iff_ne, ne_eq, Bool.not_eq_true', Bool.not_eq_false', bne_eq_false_iff_eq, Bool.not_eq_eq_eq_not, Bool.not_true, Bool.not_false] at g20'
          refine Ops.quiet (Qt.move rfl) rfl ?_
          refine Ops.guard_yes rfl rfl rfl rfl g20 ?_
          refine Ops.quiet (Qt.leq rfl rfl) rfl ?_
          refine Ops.guard_yes rfl rfl rfl rfl g17 ?_
          refine Ops.quiet (Qt.pick_t rfl rfl g20) rfl ?_
          refine Ops.quiet (Qt.pick_f rfl rfl g17) rfl ?_
          refine Ops.quiet (Qt.assign rfl) rfl ?_
          refine Ops.nil ?_
          refine H.then_normal ?_
          refine H.ret ?_
          refine (H.ends rfl (.cons (.tmp rfl) .nil) ?_)
          refine ⟨congrArg bol (Bool.eq_iff_iff.2 ?_), rfl⟩
          simp only [letterB, decide_eq_true_eq, Bool.false_eq_true, eq_self, true_iff, false_iff, iff_true, iff_false]
          first | omega | contradiction
        · have g20' := g20
          try simp only [decide_eq_true_eq, decide_eq_false_iff_not, beq_iff_eq, beq_eq_false_iff_ne, bne_iff_ne, ne_eq, Bool.not_eq_true', Bool.not_eq_false', bne_eq_false_iff_eq, Bool.not_eq_eq_eq_not, Bool.not_true, Bool.not_false] at g20'
          refine Ops.guard_no rfl rfl rfl rfl g20 ?_
          refine Ops.guard_yes rfl rfl rfl rfl g17 ?_
          refine Ops.quiet (Qt.pick_f rfl rfl g20) rfl ?_
          refine Ops.quiet (Qt.pick_f rfl rfl g17) rfl ?_
          refine Ops.quiet (Qt.assign rfl) rfl ?_
          refine Ops.nil ?_
          refine H.then_normal ?_
          refine H.ret ?_
          refine (H.ends rfl (.cons (.tmp rfl) .nil) ?_)
          refine ⟨congrArg bol (Bool.eq_iff_iff.2 ?_), rfl⟩
          simp only [letterB, decide_eq_true_eq, Bool.false_eq_true, eq_self, true_iff, false_iff, iff_true, iff_false]
          first | omega | contradiction
      · have g17' := g17
        try simp only [decide_eq_true_eq, decide_eq_false_iff_not, beq_iff_eq, beq_eq_false_iff_ne, bne_iff_ne, ne_eq, Bool.not_eq_true', Bool.not_eq_false', bne_eq_false_iff_eq, Bool.not_eq_eq_eq_not, Bool.not_true, Bool.not_false] at g17'
        refine Ops.guard_no rfl rfl rfl rfl g17 ?_
        refine Ops.guard_no rfl rfl rfl rfl g17 ?_
        refine Ops.guard_un rfl rfl rfl rfl ?_
        refine Ops.guard_un rfl rfl rfl rfl ?_
        refine Ops.guard_no rfl rfl rfl rfl g17 ?_
        refine Ops.quiet (Qt.pick_t rfl rfl g17) rfl ?_
        refine Ops.quiet (Qt.assign rfl) rfl ?_
        refine Ops.nil ?_
        refine H.then_normal ?_
        refine H.ret ?_
        refine (H.ends rfl (.cons (.tmp rfl) .nil) ?_)
        refine ⟨congrArg bol (Bool.eq_iff_iff.2 ?_), rfl⟩
        simp only [letterB, decide_eq_true_eq, Bool.false_eq_true, eq_self, true_iff, false_iff, iff_true, iff_false]
        first | omega | contradiction
theorem spec_atom (w0 : World) (c : UInt8) (cs : List SProp) : Spec Tryz.prog w0 110 [u8v c] cs (fun v cs' => v = bol (atomB c) ∧ cs' = cs) := by
  have hsi := fun cs => spec_sindex (w0 := w0) (cs := cs) atoms (c.toNat : Int)
  have hc : (c.toNat : Int).toNat.toUInt8 = c := by simp
  rw [hc] at hsi
  refine Spec.of_body Tryz.func110 rfl Tryz.ntmps110 rfl ?_
  refine H.seq ?_
  refine H.region ?_
  refine Ops.quiet (Qt.assign rfl) rfl ?_
  refine Ops.nil ?_
  refine H.then_normal ?_
  refine H.seq ?_
  refine H.region ?_
  refine Ops.quiet (Qt.move rfl) rfl ?_
  refine Ops.eff (Ef.call (fok fab_all rfl Tryz.func119 rfl) rfl (spec_letter w0 c _)) rfl ?_
  rintro _ c0 ⟨rfl, h0⟩; subst c0
  refine Ops.quiet (Qt.move rfl) rfl ?_
  refine Ops.guard rfl rfl rfl rfl (fun g5 => ?_) (fun g5 => ?_)
  · have g5' := g5
    try simp only [decide_eq_true_eq, decide_eq_false_iff_not, beq_iff_eq, beq_eq_false_iff_ne, bne_iff_ne, ne_eq, Bool.not_eq_true', Bool.not_eq_false', bne_eq_false_iff_eq, Bool.not_eq_eq_eq_not, Bool.not_true, Bool.not_false] at g5'
    refine Ops.quiet (Qt.move rfl) rfl ?_
    refine Ops.guard_yes rfl rfl rfl rfl g5 ?_
    refine Ops.eff (Ef.call (fok fab_all rfl Tryz.func68 rfl) rfl (hsi _)) rfl ?_
    rintro _ c0 ⟨rfl, h0⟩; subst c0
    refine Ops.guard_yes rfl rfl rfl rfl g5 ?_
    refine Ops.quiet (Qt.geq rfl rfl) rfl ?_
    refine Ops.quiet (Qt.pick_f rfl rfl g5) rfl ?_
    refine Ops.quiet (Qt.assign rfl) rfl ?_
    refine Ops.nil ?_
    refine H.then_normal ?_
    refine H.ret ?_
    refine (H.ends rfl (.cons (.tmp rfl) .nil) ?_)
    refine ⟨congrArg bol ?_, rfl⟩
    simp [atomB, *]
  · have g5' := g5
    try simp only [decide_eq_true_eq, decide_eq_false_iff_not, beq_iff_eq, beq_eq_false_iff_ne, bne_iff_ne, ne_eq, Bool.not_eq_true', Bool.not_eq_false', bne_eq_false_iff_eq, Bool.not_eq_eq_eq_not, Bool.not_true, Bool.not_false] at g5'
    refine Ops.guard_no rfl rfl rfl rfl g5 ?_
    refine Ops.guard_no rfl rfl rfl rfl g5 ?_
    refine Ops.quiet (Qt.pick_t rfl rfl g5) rfl ?_
    refine Ops.quiet (Qt.assign rfl) rfl ?_
    refine Ops.nil ?_
    refine H.then_normal ?_
    refine H.ret ?_
    refine (H.ends rfl (.cons (.tmp rfl) .nil) ?_)
    refine ⟨congrArg bol ?_, rfl⟩
    simp [atomB, *]
theorem spec_inner (w0 : World) (c : UInt8) (cs : List SProp) : Spec Tryz.prog w0 121 [u8v c] cs (fun v cs' => v = bol (innerB c) ∧ cs' = cs) := by
  refine Spec.of_body Tryz.func121 rfl Tryz.ntmps121 rfl ?_
  refine H.seq ?_
  refine H.region ?_
  refine Ops.quiet (Qt.assign rfl) rfl ?_
  refine Ops.nil ?_
  refine H.then_normal ?_
  refine H.seq ?_
  refine H.region ?_
  refine Ops.quiet (Qt.move rfl) rfl ?_
  refine Ops.eff (Ef.call (fok fab_all rfl Tryz.func119 rfl) rfl (spec_letter w0 c _)) rfl ?_
  rintro _ c0 ⟨rfl, h0⟩; subst c0
  refine Ops.quiet (Qt.move rfl) rfl ?_
  refine Ops.guard rfl rfl rfl rfl (fun g5 => ?_) (fun g5 => ?_)
  · have g5' := g5
    try simp only [decide_eq_true_eq, decide_eq_false_iff_not, beq_iff_eq, beq_eq_false_iff_ne, bne_iff_ne, ne_eq, Bool.not_eq_true', Bool.not_eq_false', bne_eq_false_iff_eq, Bool.not_eq_eq_eq_not, Bool.not_true, Bool.not_false] at g5'
    refine Ops.quiet (Qt.move rfl) rfl ?_
    refine Ops.guard_yes rfl rfl rfl rfl g5 ?_
    refine Ops.quiet (Qt.eql rfl rfl) rfl ?_
    refine Ops.quiet (Qt.pick_f rfl rfl g5) rfl ?_
    refine Ops.quiet (Qt.assign rfl) rfl ?_
    refine Ops.nil ?_
    refine H.then_normal ?_
    refine H.ret ?_
    refine (H.ends rfl (.cons (.tmp rfl) .nil) ?_)
    refine ⟨congrArg bol ?_, rfl⟩
    simp [innerB, *]
  · have g5' := g5
    try simp only [decide_eq_true_eq, decide_eq_false_iff_not, beq_iff_eq, beq_eq_false_iff_ne, bne_iff_ne, ne_eq, Bool.not_eq_true', Bool.not_eq_false', bne_eq_false_iff_eq, Bool.not_eq_eq_eq_not, Bool.not_true, Bool.not_false] at g5'
    refine Ops.guard_no rfl rfl rfl rfl g5 ?_
    refine Ops.quiet (Qt.pick_t rfl rfl g5) rfl ?_
    refine Ops.quiet (Qt.assign rfl) rfl ?_
    refine Ops.nil ?_
    refine H.then_normal ?_
    refine H.ret ?_
    refine (H.ends rfl (.cons (.tmp rfl) .nil) ?_)
    refine ⟨congrArg bol ?_, rfl⟩
    simp [innerB, *]
theorem spec_all (w0 : World) (s : Bs) {k : FuncId} {p : UInt8 → Bool} (hF : FOk Tryz.prog k) (hf : FnOk Tryz.prog w0 k #[] #[] u8v p s) (hl : s.length ≤ 9223372036854775806) (cs : List SProp) :
    Spec Tryz.prog w0 109 [str s, .func (.func k) #[] #[]] cs (fun v cs' => v = bol (allB p s) ∧ cs' = cs) := by
  refine Spec.of_body Tryz.func109 rfl Tryz.ntmps109 rfl ?_
  refine H.seq ?_
  refine H.region ?_
  refine Ops.quiet (Qt.assign rfl) rfl ?_
  refine Ops.nil ?_
  refine H.then_normal ?_
  refine H.seq ?_
  refine H.seq ?_
  refine H.region ?_
  refine Ops.quiet (Qt.move rfl) rfl ?_
  refine Ops.quiet (Qt.len_str rfl (tk rfl)) rfl ?_
  refine Ops.quiet (Qt.move rfl) rfl ?_
  refine Ops.nil ?_
  refine H.then_normal ?_
  refine H.block ?_
  refine H.loop (X := Nat) (fun i => [(0, str s), (1, .func (.func k) #[] #[]), (7, num s.length), (8, num i)]) (fun i => cs) (fun i => i ≤ s.length ∧ (s.take i).all p = true) (fun i => s.length - i) 0 ⟨Nat.zero_le _, rfl⟩ (by repeat (first | exact trivial | refine ⟨rfl, ?_⟩)) (fun w hw => hw) ?_
  intro i ⟨hi, ha⟩
  refine H.seq ?_
  refine H.region ?_
  refine Ops.quiet (Qt.lss rfl rfl) rfl ?_
  refine Ops.nil ?_
  refine H.then_normal ?_
  refine H.seq ?_
  refine H.cond rfl (fun h9 => ?_) (fun h9 => ?_)
  · try simp only [decide_eq_true_eq, decide_eq_false_iff_not, beq_iff_eq, beq_eq_false_iff_ne, bne_iff_ne, ne_eq, Bool.not_eq_true', Bool.not_eq_false', bne_eq_false_iff_eq, Bool.not_eq_eq_eq_not, Bool.not_true, Bool.not_false] at h9
    refine H.skip ?_
    refine H.then_normal ?_
    refine H.seq ?_
    refine H.block ?_
    refine H.seq ?_
    refine H.region ?_
    refine Ops.quiet (Qt.move rfl) rfl ?_
    refine Ops.quiet (Qt.assign rfl) rfl ?_
    refine Ops.nil ?_
    refine H.then_normal ?_
    refine H.seq ?_
    have hi2 : i < s.length := by omega
    have hm : s[i] ∈ s := List.getElem_mem hi2
    have hg : s.getD (i : Int).toNat 0 = s[i] := by show s.getD i 0 = _; simp [List.getD_eq_getElem?_getD, hi2]
    have hsu : (s.take (i + 1)).all p = ((s.take i).all p && p s[i]) := by rw [List.take_succ_eq_append_getElem hi2, List.all_append]; simp
    refine H.region ?_
    refine Ops.quiet (Qt.move rfl) rfl ?_
    refine Ops.quiet (Qt.move rfl) rfl ?_
    refine Ops.quiet (Qt.move rfl) rfl ?_
    refine Ops.quiet (Qt.sidx rfl rfl (tk rfl) (by omega) (by omega)) rfl ?_
    refine Ops.eff (Ef.callv hF rfl rfl (by rw [hg]; exact hf _ hm _)) rfl ?_
    rintro _ c0 ⟨rfl, h0⟩; subst c0
    refine Ops.quiet (Qt.not rfl) rfl ?_
    refine Ops.nil ?_
    refine H.then_normal ?_
    refine H.cond rfl (fun h16 => ?_) (fun h16 => ?_)
    · try simp only [decide_eq_true_eq, decide_eq_false_iff_not, beq_iff_eq, beq_eq_false_iff_ne, bne_iff_ne, ne_eq, Bool.not_eq_true', Bool.not_eq_false', bne_eq_false_iff_eq, Bool.not_eq_eq_eq_not, Bool.not_true, Bool.not_false] at h16
      refine H.seq ?_
      refine H.region ?_
      refine Ops.quiet (Qt.assign rfl) rfl ?_
      refine Ops.nil ?_
      refine H.then_normal ?_
      refine H.ret ?_
      refine H.blk_ret ?_
      refine H.then_ret ?_
      refine H.then_ret ?_
      refine H.blk_ret ?_
      refine H.then_ret ?_
      have e1 : s.all p = false := by
        rw [List.all_eq_false]
        exact ⟨_, hm, by simpa using h16⟩
      refine (H.ends rfl (.cons (.tmp rfl) .nil) ?_)
      exact ⟨by rw [allB, e1]; rfl, rfl⟩
    · try simp only [decide_eq_true_eq, decide_eq_false_iff_not, beq_iff_eq, beq_eq_false_iff_ne, bne_iff_ne, ne_eq, Bool.not_eq_true', Bool.not_eq_false', bne_eq_false_iff_eq, Bool.not_eq_eq_eq_not, Bool.not_true, Bool.not_false] at h16
      refine H.skip ?_
      refine H.blk_normal ?_
      refine H.then_normal ?_
      refine H.region ?_
      refine Ops.quiet (Qt.addk rfl rfl (by first | exact IntWalk.i64_in _ (by omega) | exact IntWalk.u8_in _ (by omega) | exact IntWalk.u64_in _ (by omega) | exact IntWalk.u32_in _ (by omega) | exact IntWalk.u16_in _ (by omega))) rfl ?_
      refine Ops.quiet (Qt.move rfl) rfl ?_
      refine Ops.nil ?_
      refine H.then_normal ?_
      refine H.round (i + 1) ⟨by omega, by rw [hsu, ha]; simpa using h16⟩ (by omega) (by repeat (first | exact trivial | refine ⟨rfl, ?_⟩)) (fun w hw => hw)
  · try simp only [decide_eq_true_eq, decide_eq_false_iff_not, beq_iff_eq, beq_eq_false_iff_ne, bne_iff_ne, ne_eq, Bool.not_eq_true', Bool.not_eq_false', bne_eq_false_iff_eq, Bool.not_eq_eq_eq_not, Bool.not_true, Bool.not_false] at h9
    refine H.exit ?_
    refine H.then_exit ?_
    refine H.then_exit ?_
    refine H.blk_hit ?_
    refine H.then_normal ?_
    refine H.seq ?_
    refine H.region ?_
    refine Ops.quiet (Qt.move rfl) rfl ?_
    refine Ops.quiet (Qt.sne rfl rfl) rfl ?_
    refine Ops.quiet (Qt.assign rfl) rfl ?_
    refine Ops.nil ?_
    refine H.then_normal ?_
    refine H.ret ?_
    have e1 : s.take i = s := List.take_of_length_le (by omega)
    rw [e1] at ha
    refine (H.ends rfl (.cons (.tmp rfl) .nil) ?_)
    exact ⟨by rw [allB, ha]; rfl, rfl⟩
theorem spec_label (w0 : World) (s : Bs) (hl : s.length ≤ 9223372036854775806) (cs : List SProp) : Spec Tryz.prog w0 113 [str s] cs (fun v cs' => v = bol (labelB s) ∧ cs' = cs) := by
  refine Spec.of_body Tryz.func113 rfl Tryz.ntmps113 rfl ?_
  refine H.seq ?_
  refine H.region ?_
  refine Ops.quiet (Qt.assign rfl) rfl ?_
  refine Ops.nil ?_
  refine H.then_normal ?_
  refine H.seq ?_
  refine H.region ?_
  refine Ops.quiet (Qt.assign rfl) rfl ?_
  refine Ops.nil ?_
  refine H.then_normal ?_
  refine H.seq ?_
  refine H.region ?_
  refine Ops.quiet (Qt.move rfl) rfl ?_
  refine Ops.quiet (Qt.len_str rfl (tk rfl)) rfl ?_
  refine Ops.quiet (Qt.leq rfl rfl) rfl ?_
  refine Ops.quiet (Qt.move rfl) rfl ?_
  refine Ops.guard rfl rfl rfl rfl (fun g7 => ?_) (fun g7 => ?_)
  · have g7' := g7
    try simp only [decide_eq_true_eq, decide_eq_false_iff_not, beq_iff_eq, beq_eq_false_iff_ne, bne_iff_ne, ne_eq, Bool.not_eq_true', Bool.not_eq_false', bne_eq_false_iff_eq, Bool.not_eq_eq_eq_not, Bool.not_true, Bool.not_false] at g7'
    refine Ops.quiet (Qt.move rfl) rfl ?_
    refine Ops.guard_yes rfl rfl rfl rfl g7 ?_
    refine Ops.quiet (Qt.move rfl) rfl ?_
    refine Ops.guard_yes rfl rfl rfl rfl g7 ?_
    refine Ops.eff (Ef.call (fok fab_all rfl Tryz.func109 rfl) rfl (spec_all w0 s (fok fab_all rfl Tryz.func121 rfl) (fun c _ cs => spec_inner w0 c cs) hl _)) rfl ?_
    rintro _ c0 ⟨rfl, h0⟩; subst c0
    refine Ops.quiet (Qt.pick_t rfl rfl g7) rfl ?_
    refine Ops.quiet (Qt.move rfl) rfl ?_
    refine Ops.guard rfl rfl rfl rfl (fun g12 => ?_) (fun g12 => ?_)
    · have g12' := g12
      try simp only [decide_eq_true_eq, decide_eq_false_iff_not, beq_iff_eq, beq_eq_false_iff_ne, bne_iff_ne, ne_eq, Bool.not_eq_true', Bool.not_eq_false', bne_eq_false_iff_eq, Bool.not_eq_eq_eq_not, Bool.not_true, Bool.not_false] at g12'
      refine Ops.quiet (Qt.move rfl) rfl ?_
      refine Ops.guard_yes rfl rfl rfl rfl g12 ?_
      have hp : 0 < s.length := by
        cases s with
        | nil => simp [allB] at g12'
        | cons x s => simp
      refine Ops.quiet (Qt.sidx rfl rfl (tk rfl) (by omega) (by omega)) rfl ?_
      refine Ops.guard_yes rfl rfl rfl rfl g12 ?_
      refine Ops.quiet (Qt.neq rfl rfl) rfl ?_
      refine Ops.quiet (Qt.pick_t rfl rfl g12) rfl ?_
      refine Ops.quiet (Qt.move rfl) rfl ?_
      refine Ops.guard rfl rfl rfl rfl (fun g17 => ?_) (fun g17 => ?_)
      · have g17' := g17
        try simp only [decide_eq_true_eq, decide_eq_false_iff_not, beq_iff_eq, beq_eq_false_iff_ne, bne_iff_ne, ne_eq, Bool.not_eq_true', Bool.not_eq_false', bne_eq_false_iff_eq, Bool.not_eq_eq_eq_not, Bool.not_true, Bool.not_false] at g17'
        refine Ops.quiet (Qt.move rfl) rfl ?_
        refine Ops.guard_yes rfl rfl rfl rfl g17 ?_
        refine Ops.quiet (Qt.move rfl) rfl ?_
        refine Ops.guard_yes rfl rfl rfl rfl g17 ?_
        refine Ops.quiet (Qt.len_str rfl (tk rfl)) rfl ?_
        refine Ops.guard_yes rfl rfl rfl rfl g17 ?_
        refine Ops.quiet (Qt.subk rfl rfl (by first | exact IntWalk.i64_in _ (by omega) | exact IntWalk.u8_in _ (by omega) | exact IntWalk.u64_in _ (by omega) | exact IntWalk.u32_in _ (by omega) | exact IntWalk.u16_in _ (by omega))) rfl ?_
        refine Ops.guard_yes rfl rfl rfl rfl g17 ?_
        refine Ops.quiet (Qt.sidx rfl rfl (tk rfl) (by omega) (by omega)) rfl ?_
        refine Ops.guard_yes rfl rfl rfl rfl g17 ?_
        refine Ops.quiet (Qt.neq rfl rfl) rfl ?_
        refine Ops.quiet (Qt.pick_t rfl rfl g17) rfl ?_
        refine Ops.quiet (Qt.assign rfl) rfl ?_
        refine Ops.nil ?_
        refine H.then_normal ?_
        refine H.ret ?_
        have e3 : ((s.length : Int) - 1).toNat = s.length - 1 := by omega
        refine (H.ends rfl (.cons (.tmp rfl) .nil) ?_)
        refine ⟨congrArg bol ?_, rfl⟩
        rw [e3]
        simp only [labelB, g7, g12, Bool.true_and]
        have g18 : (!(((s.getD 0 0).toNat : Int) == 45)) = true := g17
        rw [g18]
        rfl
      · have g17' := g17
        try simp only [decide_eq_true_eq, decide_eq_false_iff_not, beq_iff_eq, beq_eq_false_iff_ne, bne_iff_ne, ne_eq, Bool.not_eq_true', Bool.not_eq_false', bne_eq_false_iff_eq, Bool.not_eq_eq_eq_not, Bool.not_true, Bool.not_false] at g17'
        refine Ops.guard_no rfl rfl rfl rfl g17 ?_
        refine Ops.guard_no rfl rfl rfl rfl g17 ?_
        refine Ops.guard_no rfl rfl rfl rfl g17 ?_
        refine Ops.guard_no rfl rfl rfl rfl g17 ?_
        refine Ops.guard_no rfl rfl rfl rfl g17 ?_
        refine Ops.quiet (Qt.pick_f rfl rfl g17) rfl ?_
        refine Ops.quiet (Qt.assign rfl) rfl ?_
        refine Ops.nil ?_
        refine H.then_normal ?_
        refine H.ret ?_
        refine (H.ends rfl (.cons (.tmp rfl) .nil) ?_)
        refine ⟨congrArg bol ?_, rfl⟩
        simp only [labelB, g7, g12, Bool.true_and]
        have g18 : (!(((s.getD 0 0).toNat : Int) == 45)) = false := g17
        rw [g18]
        rfl
    · have g12' := g12
      try simp only [decide_eq_true_eq, decide_eq_false_iff_not, beq_iff_eq, beq_eq_false_iff_ne, bne_iff_ne, ne_eq, Bool.not_eq_true', Bool.not_eq_false', bne_eq_false_iff_eq, Bool.not_eq_eq_eq_not, Bool.not_true, Bool.not_false] at g12'
      refine Ops.guard_no rfl rfl rfl rfl g12 ?_
      refine Ops.guard_no rfl rfl rfl rfl g12 ?_
      refine Ops.quiet (Qt.pick_f rfl rfl g12) rfl ?_
      refine Ops.quiet (Qt.move rfl) rfl ?_
      refine Ops.guard rfl rfl rfl rfl (fun g17 => ?_) (fun g17 => ?_)
      · have g17' := g17
        try simp only [decide_eq_true_eq, decide_eq_false_iff_not, beq_iff_eq, beq_eq_false_iff_ne, bne_iff_ne, ne_eq, Bool.not_eq_true', Bool.not_eq_false', bne_eq_false_iff_eq, Bool.not_eq_eq_eq_not, Bool.not_true, Bool.not_false] at g17'
        exact Bool.noConfusion g17
      · have g17' := g17
        try simp only [decide_eq_true_eq, decide_eq_false_iff_not, beq_iff_eq, beq_eq_false_iff_ne, bne_iff_ne, ne_eq, Bool.not_eq_true', Bool.not_eq_false', bne_eq_false_iff_eq, Bool.not_eq_eq_eq_not, Bool.not_true, Bool.not_false] at g17'
        refine Ops.guard_no rfl rfl rfl rfl g17 ?_
        refine Ops.guard_no rfl rfl rfl rfl g17 ?_
        refine Ops.guard_no rfl rfl rfl rfl g17 ?_
        refine Ops.guard_no rfl rfl rfl rfl g17 ?_
        refine Ops.guard_no rfl rfl rfl rfl g17 ?_
        refine Ops.quiet (Qt.pick_f rfl rfl g17) rfl ?_
        refine Ops.quiet (Qt.assign rfl) rfl ?_
        refine Ops.nil ?_
        refine H.then_normal ?_
        refine H.ret ?_
        refine (H.ends rfl (.cons (.tmp rfl) .nil) ?_)
        refine ⟨congrArg bol ?_, rfl⟩
        simp only [labelB, g12]
        simp
  · have g7' := g7
    try simp only [decide_eq_true_eq, decide_eq_false_iff_not, beq_iff_eq, beq_eq_false_iff_ne, bne_iff_ne, ne_eq, Bool.not_eq_true', Bool.not_eq_false', bne_eq_false_iff_eq, Bool.not_eq_eq_eq_not, Bool.not_true, Bool.not_false] at g7'
    refine Ops.guard_no rfl rfl rfl rfl g7 ?_
    refine Ops.guard_no rfl rfl rfl rfl g7 ?_
    refine Ops.quiet (Qt.pick_f rfl rfl g7) rfl ?_
    refine Ops.quiet (Qt.move rfl) rfl ?_
    refine Ops.guard rfl rfl rfl rfl (fun g12 => ?_) (fun g12 => ?_)
    · have g12' := g12
      try simp only [decide_eq_true_eq, decide_eq_false_iff_not, beq_iff_eq, beq_eq_false_iff_ne, bne_iff_ne, ne_eq, Bool.not_eq_true', Bool.not_eq_false', bne_eq_false_iff_eq, Bool.not_eq_eq_eq_not, Bool.not_true, Bool.not_false] at g12'
      exact Bool.noConfusion g12
    · have g12' := g12
      try simp only [decide_eq_true_eq, decide_eq_false_iff_not, beq_iff_eq, beq_eq_false_iff_ne, bne_iff_ne, ne_eq, Bool.not_eq_true', Bool.not_eq_false', bne_eq_false_iff_eq, Bool.not_eq_eq_eq_not, Bool.not_true, Bool.not_false] at g12'
      refine Ops.guard_no rfl rfl rfl rfl g12 ?_
      refine Ops.guard_no rfl rfl rfl rfl g12 ?_
      refine Ops.quiet (Qt.pick_f rfl rfl g12) rfl ?_
      refine Ops.quiet (Qt.move rfl) rfl ?_
      refine Ops.guard rfl rfl rfl rfl (fun g17 => ?_) (fun g17 => ?_)
      · have g17' := g17
        try simp only [decide_eq_true_eq, decide_eq_false_iff_not, beq_iff_eq, beq_eq_false_iff_ne, bne_iff_ne, ne_eq, Bool.not_eq_true', Bool.not_eq_false', bne_eq_false_iff_eq, Bool.not_eq_eq_eq_not, Bool.not_true, Bool.not_false] at g17'
        exact Bool.noConfusion g17
      · have g17' := g17
        try simp only [decide_eq_true_eq, decide_eq_false_iff_not, beq_iff_eq, beq_eq_false_iff_ne, bne_iff_ne, ne_eq, Bool.not_eq_true', Bool.not_eq_false', bne_eq_false_iff_eq, Bool.not_eq_eq_eq_not, Bool.not_true, Bool.not_false] at g17'
        refine Ops.guard_no rfl rfl rfl rfl g17 ?_
        refine Ops.guard_no rfl rfl rfl rfl g17 ?_
        refine Ops.guard_no rfl rfl rfl rfl g17 ?_
        refine Ops.guard_no rfl rfl rfl rfl g17 ?_
        refine Ops.guard_no rfl rfl rfl rfl g17 ?_
        refine Ops.quiet (Qt.pick_f rfl rfl g17) rfl ?_
        refine Ops.quiet (Qt.assign rfl) rfl ?_
        refine Ops.nil ?_
        refine H.then_normal ?_
        refine H.ret ?_
        refine (H.ends rfl (.cons (.tmp rfl) .nil) ?_)
        refine ⟨congrArg bol ?_, rfl⟩
        simp only [labelB, g7]
        rfl
theorem splitC_len (c : UInt8) : ∀ (s : Bs), ∀ a ∈ splitC c s, a.length ≤ s.length
  | [], a, h => by
    rcases List.mem_singleton.1 h with rfl
    exact Nat.le_refl _
  | x :: s, a, h => by
    have ih := splitC_len c s
    unfold splitC at h
    split at h
    · rcases List.mem_cons.1 h with rfl | h
      · simp
      · have := ih a h; simp; omega
    · cases hs : splitC c s with
      | nil => rw [hs] at h; simp at h; rw [h]; simp
      | cons p ps =>
        rw [hs] at h ih
        rcases List.mem_cons.1 h with rfl | h
        · have := ih p (.head _); simp; omega
        · have := ih a (.tail _ h); simp; omega
theorem spec_local_fn (w0 : World) (s : Bs) (hl : s.length ≤ 9223372036854775806) (cs : List SProp) : Spec Tryz.prog w0 108 [str s] cs (fun v cs' => v = bol (!(allB atomB s)) ∧ cs' = cs) := by
  refine Spec.of_body Tryz.func108 rfl Tryz.ntmps108 rfl ?_
  refine H.seq ?_
  refine H.region ?_
  refine Ops.quiet (Qt.assign rfl) rfl ?_
  refine Ops.nil ?_
  refine H.then_normal ?_
  refine H.seq ?_
  refine H.region ?_
  refine Ops.quiet (Qt.move rfl) rfl ?_
  refine Ops.eff (Ef.call (fok fab_all rfl Tryz.func109 rfl) rfl (spec_all w0 s (fok fab_all rfl Tryz.func110 rfl) (fun c _ cs => spec_atom w0 c cs) hl _)) rfl ?_
  rintro _ c0 ⟨rfl, h0⟩; subst c0
  refine Ops.quiet (Qt.not rfl) rfl ?_
  refine Ops.quiet (Qt.assign rfl) rfl ?_
  refine Ops.nil ?_
  refine H.then_normal ?_
  refine H.ret ?_
  refine (H.ends rfl (.cons (.tmp rfl) .nil) ?_)
  exact ⟨rfl, rfl⟩
theorem spec_domain_fn (w0 : World) (s : Bs) (hl : s.length ≤ 9223372036854775806) (cs : List SProp) : Spec Tryz.prog w0 112 [str s] cs (fun v cs' => v = bol (!(labelB s)) ∧ cs' = cs) := by
  refine Spec.of_body Tryz.func112 rfl Tryz.ntmps112 rfl ?_
  refine H.seq ?_
  refine H.region ?_
  refine Ops.quiet (Qt.assign rfl) rfl ?_
  refine Ops.nil ?_
  refine H.then_normal ?_
  refine H.seq ?_
  refine H.region ?_
  refine Ops.quiet (Qt.move rfl) rfl ?_
  refine Ops.eff (Ef.call (fok fab_all rfl Tryz.func113 rfl) rfl (spec_label w0 s hl _)) rfl ?_
  rintro _ c0 ⟨rfl, h0⟩; subst c0
  refine Ops.quiet (Qt.not rfl) rfl ?_
  refine Ops.quiet (Qt.assign rfl) rfl ?_
  refine Ops.nil ?_
  refine H.then_normal ?_
  refine H.ret ?_
  refine (H.ends rfl (.cons (.tmp rfl) .nil) ?_)
  exact ⟨rfl, rfl⟩
theorem spec_local (w0 : World) (hG : Gl w0) (s : Bs) (hl : s.length < 4294967281) (cs : List SProp) : Spec Tryz.prog w0 94 [str s] cs (fun v cs' => v = bol (localB s) ∧ cs' = cs) := by
  have hs := fun cs => spec_ssplit hG (cs := cs) s [46] hl (Nat.le_refl _)
  rw [split_one] at hs
  refine Spec.of_body Tryz.func94 rfl Tryz.ntmps94 rfl ?_
  refine H.seq ?_
  refine H.region ?_
  refine Ops.quiet (Qt.assign rfl) rfl ?_
  refine Ops.nil ?_
  refine H.then_normal ?_
  refine H.seq ?_
  refine H.region ?_
  refine Ops.quiet (Qt.assign rfl) rfl ?_
  refine Ops.nil ?_
  refine H.then_normal ?_
  refine H.seq ?_
  refine H.region ?_
  refine Ops.quiet (Qt.move rfl) rfl ?_
  refine Ops.quiet (Qt.len_str rfl (tk rfl)) rfl ?_
  refine Ops.quiet (Qt.leq rfl rfl) rfl ?_
  refine Ops.quiet (Qt.move rfl) rfl ?_
  refine Ops.guard rfl rfl rfl rfl (fun g7 => ?_) (fun g7 => ?_)
  · have g7' := g7
    try simp only [decide_eq_true_eq, decide_eq_false_iff_not, beq_iff_eq, beq_eq_false_iff_ne, bne_iff_ne, ne_eq, Bool.not_eq_true', Bool.not_eq_false', bne_eq_false_iff_eq, Bool.not_eq_eq_eq_not, Bool.not_true, Bool.not_false] at g7'
    refine Ops.quiet (Qt.move rfl) rfl ?_
    refine Ops.guard_yes rfl rfl rfl rfl g7 ?_
    refine Ops.eff (Ef.call (fok fab_all rfl Tryz.func111 rfl) rfl (hs _)) rfl ?_
    rintro _ _ ⟨A9, rfl, rfl⟩
    refine Ops.guard_yes rfl rfl rfl rfl g7 ?_
    refine Ops.quiet (Qt.move rfl) rfl ?_
    refine Ops.guard_yes rfl rfl rfl rfl g7 ?_
    refine Ops.eff (Ef.call (fok fab_all rfl Tryz.func53 rfl) rfl (spec_scontainsfunc (l := splitC 46 s) (by repeat (first | assumption | exact Reads.of_head | apply Reads.tail)) (fok fab_all rfl Tryz.func108 rfl) (fun a ha cs => spec_local_fn w0 a (by have := splitC_len 46 s a ha; omega) cs))) rfl ?_
    rintro _ c0 ⟨rfl, h0⟩; subst c0
    refine Ops.guard_yes rfl rfl rfl rfl g7 ?_
    refine Ops.quiet (Qt.not rfl) rfl ?_
    refine Ops.quiet (Qt.pick_t rfl rfl g7) rfl ?_
    refine Ops.quiet (Qt.assign rfl) rfl ?_
    refine Ops.nil ?_
    refine H.then_normal ?_
    refine H.ret ?_
    refine (H.ends_to (cs' := cs) rfl (.cons (.tmp rfl) .nil) (fun w hw => ?_) ?_)
    · exact hw.tail
    · refine ⟨congrArg bol ?_, rfl⟩
      rw [localB, g7, Bool.true_and]
  · have g7' := g7
    try simp only [decide_eq_true_eq, decide_eq_false_iff_not, beq_iff_eq, beq_eq_false_iff_ne, bne_iff_ne, ne_eq, Bool.not_eq_true', Bool.not_eq_false', bne_eq_false_iff_eq, Bool.not_eq_eq_eq_not, Bool.not_true, Bool.not_false] at g7'
    refine Ops.guard_no rfl rfl rfl rfl g7 ?_
    refine Ops.guard_no rfl rfl rfl rfl g7 ?_
    refine Ops.guard_no rfl rfl rfl rfl g7 ?_
    refine Ops.guard_no rfl rfl rfl rfl g7 ?_
    refine Ops.quiet (Qt.pick_f rfl rfl g7) rfl ?_
    refine Ops.quiet (Qt.assign rfl) rfl ?_
    refine Ops.nil ?_
    refine H.then_normal ?_
    refine H.ret ?_
    refine (H.ends rfl (.cons (.tmp rfl) .nil) ?_)
    refine ⟨congrArg bol ?_, rfl⟩
    rw [localB, g7]
    rfl
theorem spec_domain (w0 : World) (hG : Gl w0) (s : Bs) (hl : s.length < 4294967281) (cs : List SProp) : Spec Tryz.prog w0 95 [str s] cs (fun v cs' => v = bol (domainB s) ∧ cs' = cs) := by
  have hs := fun cs => spec_ssplit hG (cs := cs) s [46] hl (Nat.le_refl _)
  rw [split_one] at hs
  refine Spec.of_body Tryz.func95 rfl Tryz.ntmps95 rfl ?_
  refine H.seq ?_
  refine H.region ?_
  refine Ops.quiet (Qt.assign rfl) rfl ?_
  refine Ops.nil ?_
  refine H.then_normal ?_
  refine H.seq ?_
  refine H.region ?_
  refine Ops.quiet (Qt.assign rfl) rfl ?_
  refine Ops.nil ?_
  refine H.then_normal ?_
  refine H.seq ?_
  refine H.region ?_
  refine Ops.quiet (Qt.move rfl) rfl ?_
  refine Ops.quiet (Qt.len_str rfl (tk rfl)) rfl ?_
  refine Ops.quiet (Qt.leq rfl rfl) rfl ?_
  refine Ops.quiet (Qt.move rfl) rfl ?_
  refine Ops.guard rfl rfl rfl rfl (fun g7 => ?_) (fun g7 => ?_)
  · have g7' := g7
    try simp only [decide_eq_true_eq, decide_eq_false_iff_not, beq_iff_eq, beq_eq_false_iff_ne, bne_iff_ne, ne_eq, Bool.not_eq_true', Bool.not_eq_false', bne_eq_false_iff_eq, Bool.not_eq_eq_eq_not, Bool.not_true, Bool.not_false] at g7'
    refine Ops.quiet (Qt.move rfl) rfl ?_
    refine Ops.guard_yes rfl rfl rfl rfl g7 ?_
    refine Ops.eff (Ef.call (fok fab_all rfl Tryz.func111 rfl) rfl (hs _)) rfl ?_
    rintro _ _ ⟨A9, rfl, rfl⟩
    refine Ops.guard_yes rfl rfl rfl rfl g7 ?_
    refine Ops.quiet (Qt.move rfl) rfl ?_
    refine Ops.guard_yes rfl rfl rfl rfl g7 ?_
    refine Ops.eff (Ef.call (fok fab_all rfl Tryz.func53 rfl) rfl (spec_scontainsfunc (l := splitC 46 s) (by repeat (first | assumption | exact Reads.of_head | apply Reads.tail)) (fok fab_all rfl Tryz.func112 rfl) (fun a ha cs => spec_domain_fn w0 a (by have := splitC_len 46 s a ha; omega) cs))) rfl ?_
    rintro _ c0 ⟨rfl, h0⟩; subst c0
    refine Ops.guard_yes rfl rfl rfl rfl g7 ?_
    refine Ops.quiet (Qt.not rfl) rfl ?_
    refine Ops.quiet (Qt.pick_t rfl rfl g7) rfl ?_
    refine Ops.quiet (Qt.assign rfl) rfl ?_
    refine Ops.nil ?_
    refine H.then_normal ?_
    refine H.ret ?_
    refine (H.ends_to (cs' := cs) rfl (.cons (.tmp rfl) .nil) (fun w hw => ?_) ?_)
    · exact hw.tail
    · refine ⟨congrArg bol ?_, rfl⟩
      rw [domainB, g7, Bool.true_and]
  · have g7' := g7
    try simp only [decide_eq_true_eq, decide_eq_false_iff_not, beq_iff_eq, beq_eq_false_iff_ne, bne_iff_ne, ne_eq, Bool.not_eq_true', Bool.not_eq_false', bne_eq_false_iff_eq, Bool.not_eq_eq_eq_not, Bool.not_true, Bool.not_false] at g7'
    refine Ops.guard_no rfl rfl rfl rfl g7 ?_
    refine Ops.guard_no rfl rfl rfl rfl g7 ?_
    refine Ops.guard_no rfl rfl rfl rfl g7 ?_
    refine Ops.guard_no rfl rfl rfl rfl g7 ?_
    refine Ops.quiet (Qt.pick_f rfl rfl g7) rfl ?_
    refine Ops.quiet (Qt.assign rfl) rfl ?_
    refine Ops.nil ?_
    refine H.then_normal ?_
    refine H.ret ?_
    refine (H.ends rfl (.cons (.tmp rfl) .nil) ?_)
    refine ⟨congrArg bol ?_, rfl⟩
    rw [domainB, g7]
    rfl
/-! ### Small letters; a mailbox's parts -/
def lowC (c : UInt8) : UInt8 := if 65 ≤ c.toNat ∧ c.toNat ≤ 90 then UInt8.ofNat (c.toNat + 32) else c
def lowerB (s : Bs) : Bs := s.map lowC
theorem map_step {α : Type} (f : α → α) (s : List α) (i : Nat) (h : i < s.length) (d : α) : ((s.take i).map f ++ s.drop i).getD i d = s.getD i d := by
  have : ((s.take i).map f).length = i := by simp; omega
  simp only [List.getD_eq_getElem?_getD]
  rw [List.getElem?_append_right (by omega), this]
  simp
theorem map_set {α : Type} (f : α → α) (s : List α) (i : Nat) (h : i < s.length) : ((s.take i).map f ++ s.drop i).set i (f s[i]) = (s.take (i + 1)).map f ++ s.drop (i + 1) := by
  have h1 : ((s.take i).map f).length = i := by simp; omega
  have h2 : s.drop i = s[i] :: s.drop (i + 1) := List.drop_eq_getElem_cons h
  rw [List.set_append_right _ _ (by omega), h1, Nat.sub_self, h2, List.set_cons_zero, List.take_succ_eq_append_getElem h]
  simp only [List.map_append, List.map_cons, List.map_nil, List.append_assoc, List.cons_append, List.nil_append]
theorem map_keep {α : Type} (f : α → α) (s : List α) (i : Nat) (h : i < s.length) (hf : f s[i] = s[i]) : (s.take i).map f ++ s.drop i = (s.take (i + 1)).map f ++ s.drop (i + 1) := by
  have h2 : s.drop i = s[i] :: s.drop (i + 1) := List.drop_eq_getElem_cons h
  rw [List.take_succ_eq_append_getElem h]
  conv => lhs; rw [h2]
  simp only [List.map_append, List.map_cons, List.map_nil, List.append_assoc, List.cons_append, List.nil_append, hf]
theorem map_len {α : Type} (f : α → α) (s : List α) (i : Nat) : ((s.take i).map f ++ s.drop i).length = s.length := by simp; omega
theorem spec_lower (w0 : World) (s : Bs) (hl : s.length ≤ 4611686018427387904) (cs : List SProp) : Spec Tryz.prog w0 80 [str s] cs (fun v cs' => v = str (lowerB s) ∧ cs' = cs) := by
  refine Spec.of_body Tryz.func80 rfl Tryz.ntmps80 rfl ?_
  refine H.seq ?_
  refine H.region ?_
  refine Ops.quiet (Qt.assign rfl) rfl ?_
  refine Ops.nil ?_
  refine H.then_normal ?_
  refine H.seq ?_
  refine H.region ?_
  refine Ops.quiet (Qt.move rfl) rfl ?_
  refine Ops.eff (Ef.str_bytes rfl (tk rfl) (tk rfl) (tk rfl) (by omega)) rfl ?_
  rintro _ _ ⟨A7, c7, rfl, rfl⟩
  refine Ops.quiet (Qt.assign rfl) rfl ?_
  refine Ops.nil ?_
  refine H.then_normal ?_
  refine H.seq ?_
  refine H.seq ?_
  refine H.region ?_
  refine Ops.quiet (Qt.move rfl) rfl ?_
  refine Ops.quiet (Qt.len_sl (ats := #[]) rfl (tk rfl)) rfl ?_
  refine Ops.quiet (Qt.move rfl) rfl ?_
  refine Ops.nil ?_
  refine H.then_normal ?_
  refine H.block ?_
  refine H.loop (X := Nat) (fun i => [(3, .slice A7 s.length c7), (8, .slice A7 s.length c7), (9, num s.length), (10, num i)]) (fun i => osl 5 A7 s.length c7 (((s.take i).map lowC ++ s.drop i).map u8v) :: cs) (fun i => i ≤ s.length) (fun i => s.length - i) 0 (Nat.zero_le _) (by repeat (first | exact trivial | refine ⟨rfl, ?_⟩)) (fun w hw => hw) ?_
  intro i hi
  have hml := map_len lowC s i
  refine H.seq ?_
  refine H.region ?_
  refine Ops.quiet (Qt.lss rfl rfl) rfl ?_
  refine Ops.nil ?_
  refine H.then_normal ?_
  refine H.seq ?_
  refine H.cond rfl (fun h11 => ?_) (fun h11 => ?_)
  · try simp only [decide_eq_true_eq, decide_eq_false_iff_not, beq_iff_eq, beq_eq_false_iff_ne, bne_iff_ne, ne_eq, Bool.not_eq_true', Bool.not_eq_false', bne_eq_false_iff_eq, Bool.not_eq_eq_eq_not, Bool.not_true, Bool.not_false] at h11
    refine H.skip ?_
    refine H.then_normal ?_
    refine H.seq ?_
    refine H.block ?_
    refine H.seq ?_
    have hi2 : i < s.length := by omega
    have hg : ((s.take i).map lowC ++ s.drop i).getD (i : Int).toNat 0 = s[i] := by show ((s.take i).map lowC ++ s.drop i).getD i 0 = _; rw [map_step lowC s i hi2]; simp [List.getD_eq_getElem?_getD, hi2]
    have hb := (s[i]).toNat_lt
    refine H.region ?_
    refine Ops.quiet (Qt.move rfl) rfl ?_
    refine Ops.quiet (Qt.indexAddr rfl rfl (tk rfl) (tk rfl) rfl (by repeat (first | assumption | exact Reads.of_head | apply Reads.tail)) (by omega) (by omega)) rfl ?_
    refine Ops.quiet (Qt.cast (Qt.load_map (0 : UInt8) rfl (tk rfl) rfl (by repeat (first | assumption | exact Reads.of_head | apply Reads.tail)) (by rw [hml]; exact hi2)) (by rw [hg])) rfl ?_
    refine Ops.quiet (Qt.assign rfl) rfl ?_
    refine Ops.quiet (Qt.assign rfl) rfl ?_
    refine Ops.nil ?_
    refine H.then_normal ?_
    refine H.seq ?_
    refine H.region ?_
    refine Ops.quiet (Qt.move rfl) rfl ?_
    refine Ops.quiet (Qt.geq rfl rfl) rfl ?_
    refine Ops.quiet (Qt.move rfl) rfl ?_
    refine Ops.guard rfl rfl rfl rfl (fun g17 => ?_) (fun g17 => ?_)
    · have g17' := g17
      try simp only [decide_eq_true_eq, decide_eq_false_iff_not, beq_iff_eq, beq_eq_false_iff_ne, bne_iff_ne, ne_eq, Bool.not_eq_true', Bool.not_eq_false', bne_eq_false_iff_eq, Bool.not_eq_eq_eq_not, Bool.not_true, Bool.not_false] at g17'
      refine Ops.quiet (Qt.move rfl) rfl ?_
      refine Ops.guard_yes rfl rfl rfl rfl g17 ?_
      refine Ops.quiet (Qt.leq rfl rfl) rfl ?_
      refine Ops.quiet (Qt.pick_t rfl rfl g17) rfl ?_
      refine Ops.nil ?_
      refine H.then_normal ?_
      refine H.cond rfl (fun h20 => ?_) (fun h20 => ?_)
      · try simp only [decide_eq_true_eq, decide_eq_false_iff_not, beq_iff_eq, beq_eq_false_iff_ne, bne_iff_ne, ne_eq, Bool.not_eq_true', Bool.not_eq_false', bne_eq_false_iff_eq, Bool.not_eq_eq_eq_not, Bool.not_true, Bool.not_false] at h20
        have e2 : Value.int .u8 ((s[i].toNat : Int) + 97 - 65) = u8v (lowC s[i]) := by
          have e : lowC s[i] = UInt8.ofNat (s[i].toNat + 32) := if_pos (by omega)
          rw [e, u8_of (by omega) (by omega)]
          congr 2
          omega
        refine H.region ?_
        refine Ops.quiet (Qt.move rfl) rfl ?_
        refine Ops.quiet (Qt.move rfl) rfl ?_
        refine Ops.quiet (Qt.move rfl) rfl ?_
        refine Ops.quiet (Qt.addk rfl rfl (by first | exact IntWalk.i64_in _ (by omega) | exact IntWalk.u8_in _ (by omega) | exact IntWalk.u64_in _ (by omega) | exact IntWalk.u32_in _ (by omega) | exact IntWalk.u16_in _ (by omega))) rfl ?_
        refine Ops.quiet (Qt.cast (Qt.subk rfl rfl (by first | exact IntWalk.i64_in _ (by omega) | exact IntWalk.u8_in _ (by omega) | exact IntWalk.u64_in _ (by omega) | exact IntWalk.u32_in _ (by omega) | exact IntWalk.u16_in _ (by omega))) e2) rfl ?_
        refine Ops.quiet (Qt.indexAddr rfl rfl (tk rfl) (tk rfl) rfl (by repeat (first | assumption | exact Reads.of_head | apply Reads.tail)) (by omega) (by omega)) rfl ?_
        refine Ops.eff (Ef.store_map (f := u8v) (l := (s.take i).map lowC ++ s.drop i) (b := lowC s[i]) rfl rfl (tk rfl) rfl (fun _ => rfl) (by repeat (first | exact Upd.head | apply Upd.tail)) (by omega)) rfl ?_
        rintro _ _ rfl
        refine Ops.nil ?_
        refine H.blk_normal ?_
        refine H.then_normal ?_
        refine H.region ?_
        refine Ops.quiet (Qt.addk rfl rfl (by first | exact IntWalk.i64_in _ (by omega) | exact IntWalk.u8_in _ (by omega) | exact IntWalk.u64_in _ (by omega) | exact IntWalk.u32_in _ (by omega) | exact IntWalk.u16_in _ (by omega))) rfl ?_
        refine Ops.quiet (Qt.move rfl) rfl ?_
        refine Ops.nil ?_
        refine H.then_normal ?_
        refine H.round (i + 1) (by omega) (by omega) (by repeat (first | exact trivial | refine ⟨rfl, ?_⟩)) (fun w hw => ?_)
        rw [← map_set lowC s i hi2]
        exact hw
      · try simp only [decide_eq_true_eq, decide_eq_false_iff_not, beq_iff_eq, beq_eq_false_iff_ne, bne_iff_ne, ne_eq, Bool.not_eq_true', Bool.not_eq_false', bne_eq_false_iff_eq, Bool.not_eq_eq_eq_not, Bool.not_true, Bool.not_false] at h20
        refine H.skip ?_
        refine H.blk_normal ?_
        refine H.then_normal ?_
        refine H.region ?_
        refine Ops.quiet (Qt.addk rfl rfl (by first | exact IntWalk.i64_in _ (by omega) | exact IntWalk.u8_in _ (by omega) | exact IntWalk.u64_in _ (by omega) | exact IntWalk.u32_in _ (by omega) | exact IntWalk.u16_in _ (by omega))) rfl ?_
        refine Ops.quiet (Qt.move rfl) rfl ?_
        refine Ops.nil ?_
        refine H.then_normal ?_
        refine H.round (i + 1) (by omega) (by omega) (by repeat (first | exact trivial | refine ⟨rfl, ?_⟩)) (fun w hw => ?_)
        rw [← map_keep lowC s i hi2 (if_neg (by omega))]
        exact hw
    · have g17' := g17
      try simp only [decide_eq_true_eq, decide_eq_false_iff_not, beq_iff_eq, beq_eq_false_iff_ne, bne_iff_ne, ne_eq, Bool.not_eq_true', Bool.not_eq_false', bne_eq_false_iff_eq, Bool.not_eq_eq_eq_not, Bool.not_true, Bool.not_false] at g17'
      refine Ops.guard_no rfl rfl rfl rfl g17 ?_
      refine Ops.quiet (Qt.pick_f rfl rfl g17) rfl ?_
      refine Ops.nil ?_
      refine H.then_normal ?_
      refine H.cond_false rfl (by rfl) ?_
      refine H.skip ?_
      refine H.blk_normal ?_
      refine H.then_normal ?_
      refine H.region ?_
      refine Ops.quiet (Qt.addk rfl rfl (by first | exact IntWalk.i64_in _ (by omega) | exact IntWalk.u8_in _ (by omega) | exact IntWalk.u64_in _ (by omega) | exact IntWalk.u32_in _ (by omega) | exact IntWalk.u16_in _ (by omega))) rfl ?_
      refine Ops.quiet (Qt.move rfl) rfl ?_
      refine Ops.nil ?_
      refine H.then_normal ?_
      refine H.round (i + 1) (by omega) (by omega) (by repeat (first | exact trivial | refine ⟨rfl, ?_⟩)) (fun w hw => ?_)
      rw [← map_keep lowC s i hi2 (if_neg (by omega))]
      exact hw
  · try simp only [decide_eq_true_eq, decide_eq_false_iff_not, beq_iff_eq, beq_eq_false_iff_ne, bne_iff_ne, ne_eq, Bool.not_eq_true', Bool.not_eq_false', bne_eq_false_iff_eq, Bool.not_eq_eq_eq_not, Bool.not_true, Bool.not_false] at h11
    refine H.exit ?_
    refine H.then_exit ?_
    refine H.then_exit ?_
    refine H.blk_hit ?_
    refine H.then_normal ?_
    refine H.seq ?_
    refine H.region ?_
    refine Ops.quiet (Qt.move rfl) rfl ?_
    refine Ops.quiet (Qt.bytes_str rfl (tk rfl) (tk rfl) (tk rfl) (by repeat (first | assumption | exact Reads.of_head | apply Reads.tail))) rfl ?_
    refine Ops.quiet (Qt.assign rfl) rfl ?_
    refine Ops.nil ?_
    refine H.then_normal ?_
    refine H.ret ?_
    have e1 : (s.take i).map lowC ++ s.drop i = lowerB s := by rw [List.take_of_length_le (by omega), List.drop_of_length_le (by omega), List.append_nil]; rfl
    rw [e1]
    refine (H.ends_to (cs' := cs) rfl (.cons (.tmp rfl) .nil) (fun w hw => ?_) ?_)
    · exact hw.tail
    · exact ⟨rfl, rfl⟩
def splitM (s : Bs) : Bs × Bs × Bool := if (Lib.cut s [64]).2.2 && (localB (Lib.cut s [64]).1 && domainB (Lib.cut s [64]).2.1) then ((Lib.cut s [64]).1, (Lib.cut s [64]).2.1, true) else ([], [], false)
def canonM (s : Bs) : Bs × Bool := if (splitM s).2.2 then ((splitM s).1 ++ [64] ++ lowerB (splitM s).2.1, true) else ([], false)
def mboxB (s : Bs) : Bool := (canonM s).2 && ((canonM s).1 == s)
theorem cut_len (s sep : Bs) : (Lib.cut s sep).1.length ≤ s.length ∧ (Lib.cut s sep).2.1.length ≤ s.length := by
  unfold Lib.cut
  split
  · simp only [List.length_take, List.length_drop]; omega
  · simp
theorem splitM_len (s : Bs) : (splitM s).1.length ≤ s.length ∧ (splitM s).2.1.length ≤ s.length := by
  have := cut_len s [64]
  unfold splitM
  split
  · exact this
  · simp
theorem lowerB_len (s : Bs) : (lowerB s).length = s.length := by simp [lowerB]
theorem spec_asplit (w0 : World) (hG : Gl w0) (s : Bs) (hl : s.length < 4294967281) (cs : List SProp) : Spec Tryz.prog w0 79 [str s] cs (fun v cs' => v = .tuple #[str (splitM s).1, str (splitM s).2.1, bol (splitM s).2.2] ∧ cs' = cs) := by
  have hc := cut_len s [64]
  refine Spec.of_body Tryz.func79 rfl Tryz.ntmps79 rfl ?_
  refine H.seq ?_
  refine H.region ?_
  refine Ops.quiet (Qt.assign rfl) rfl ?_
  refine Ops.quiet (Qt.assign rfl) rfl ?_
  refine Ops.quiet (Qt.assign rfl) rfl ?_
  refine Ops.nil ?_
  refine H.then_normal ?_
  refine H.seq ?_
  refine H.region ?_
  refine Ops.quiet (Qt.move rfl) rfl ?_
  refine Ops.eff (Ef.call (fok fab_all rfl Tryz.func63 rfl) rfl (spec_scut hG s [64] hl)) rfl ?_
  rintro _ c0 ⟨rfl, h0⟩; subst c0
  refine Ops.quiet (Qt.move rfl) rfl ?_
  refine Ops.quiet (Qt.extract rfl rfl) rfl ?_
  refine Ops.quiet (Qt.extract rfl rfl) rfl ?_
  refine Ops.quiet (Qt.extract rfl rfl) rfl ?_
  refine Ops.quiet (Qt.assign rfl) rfl ?_
  refine Ops.quiet (Qt.assign rfl) rfl ?_
  refine Ops.quiet (Qt.assign rfl) rfl ?_
  refine Ops.nil ?_
  refine H.then_normal ?_
  refine H.seq ?_
  refine H.seq ?_
  refine H.region ?_
  refine Ops.quiet (Qt.move rfl) rfl ?_
  refine Ops.quiet (Qt.not rfl) rfl ?_
  refine Ops.quiet (Qt.move rfl) rfl ?_
  refine Ops.guard rfl rfl rfl rfl (fun g13 => ?_) (fun g13 => ?_)
  · have g13' := g13
    try simp only [decide_eq_true_eq, decide_eq_false_iff_not, beq_iff_eq, beq_eq_false_iff_ne, bne_iff_ne, ne_eq, Bool.not_eq_true', Bool.not_eq_false', bne_eq_false_iff_eq, Bool.not_eq_eq_eq_not, Bool.not_true, Bool.not_false] at g13'
    refine Ops.quiet (Qt.move rfl) rfl ?_
    refine Ops.guard_yes rfl rfl rfl rfl g13 ?_
    refine Ops.eff (Ef.call (fok fab_all rfl Tryz.func94 rfl) rfl (spec_local w0 hG (Lib.cut s [64]).1 (by omega) _)) rfl ?_
    rintro _ c0 ⟨rfl, h0⟩; subst c0
    refine Ops.guard_yes rfl rfl rfl rfl g13 ?_
    refine Ops.quiet (Qt.not rfl) rfl ?_
    refine Ops.quiet (Qt.pick_f rfl rfl g13) rfl ?_
    refine Ops.quiet (Qt.move rfl) rfl ?_
    refine Ops.guard rfl rfl rfl rfl (fun g18 => ?_) (fun g18 => ?_)
    · have g18' := g18
      try simp only [decide_eq_true_eq, decide_eq_false_iff_not, beq_iff_eq, beq_eq_false_iff_ne, bne_iff_ne, ne_eq, Bool.not_eq_true', Bool.not_eq_false', bne_eq_false_iff_eq, Bool.not_eq_eq_eq_not, Bool.not_true, Bool.not_false] at g18'
      refine Ops.quiet (Qt.move rfl) rfl ?_
      refine Ops.guard_yes rfl rfl rfl rfl g18 ?_
      refine Ops.eff (Ef.call (fok fab_all rfl Tryz.func95 rfl) rfl (spec_domain w0 hG (Lib.cut s [64]).2.1 (by omega) _)) rfl ?_
      rintro _ c0 ⟨rfl, h0⟩; subst c0
      refine Ops.guard_yes rfl rfl rfl rfl g18 ?_
      refine Ops.quiet (Qt.not rfl) rfl ?_
      refine Ops.quiet (Qt.pick_f rfl rfl g18) rfl ?_
      refine Ops.nil ?_
      refine H.then_normal ?_
      refine H.cond rfl (fun h22 => ?_) (fun h22 => ?_)
      · try simp only [decide_eq_true_eq, decide_eq_false_iff_not, beq_iff_eq, beq_eq_false_iff_ne, bne_iff_ne, ne_eq, Bool.not_eq_true', Bool.not_eq_false', bne_eq_false_iff_eq, Bool.not_eq_eq_eq_not, Bool.not_true, Bool.not_false] at h22
        refine H.seq ?_
        refine H.region ?_
        refine Ops.quiet (Qt.assign rfl) rfl ?_
        refine Ops.quiet (Qt.assign rfl) rfl ?_
        refine Ops.quiet (Qt.assign rfl) rfl ?_
        refine Ops.nil ?_
        refine H.then_normal ?_
        refine H.ret ?_
        refine H.then_ret ?_
        refine (H.ends rfl (.cons (.tmp rfl) (.cons (.tmp rfl) (.cons (.tmp rfl) .nil))) ?_)
        refine ⟨?_, rfl⟩
        have e : domainB (Lib.cut s [64]).2.1 = false := by simpa using h22
        simp [splitM, e, retV]
      · try simp only [decide_eq_true_eq, decide_eq_false_iff_not, beq_iff_eq, beq_eq_false_iff_ne, bne_iff_ne, ne_eq, Bool.not_eq_true', Bool.not_eq_false', bne_eq_false_iff_eq, Bool.not_eq_eq_eq_not, Bool.not_true, Bool.not_false] at h22
        refine H.skip ?_
        refine H.then_normal ?_
        refine H.seq ?_
        refine H.region ?_
        refine Ops.quiet (Qt.move rfl) rfl ?_
        refine Ops.quiet (Qt.move rfl) rfl ?_
        refine Ops.quiet (Qt.assign rfl) rfl ?_
        refine Ops.quiet (Qt.assign rfl) rfl ?_
        refine Ops.quiet (Qt.assign rfl) rfl ?_
        refine Ops.nil ?_
        refine H.then_normal ?_
        refine H.ret ?_
        refine (H.ends rfl (.cons (.tmp rfl) (.cons (.tmp rfl) (.cons (.tmp rfl) .nil))) ?_)
        refine ⟨?_, rfl⟩
        have e1 : (Lib.cut s [64]).2.2 = true := by simpa using g13'
        have e2 : localB (Lib.cut s [64]).1 = true := by simpa using g18'
        have e3 : domainB (Lib.cut s [64]).2.1 = true := by simpa using h22
        simp [splitM, e1, e2, e3, retV]
    · have g18' := g18
      try simp only [decide_eq_true_eq, decide_eq_false_iff_not, beq_iff_eq, beq_eq_false_iff_ne, bne_iff_ne, ne_eq, Bool.not_eq_true', Bool.not_eq_false', bne_eq_false_iff_eq, Bool.not_eq_eq_eq_not, Bool.not_true, Bool.not_false] at g18'
      refine Ops.guard_no rfl rfl rfl rfl g18 ?_
      refine Ops.guard_no rfl rfl rfl rfl g18 ?_
      refine Ops.quiet (Qt.pick_t rfl rfl g18) rfl ?_
      refine Ops.nil ?_
      refine H.then_normal ?_
      refine H.cond_true rfl (by rfl) ?_
      refine H.seq ?_
      refine H.region ?_
      refine Ops.quiet (Qt.assign rfl) rfl ?_
      refine Ops.quiet (Qt.assign rfl) rfl ?_
      refine Ops.quiet (Qt.assign rfl) rfl ?_
      refine Ops.nil ?_
      refine H.then_normal ?_
      refine H.ret ?_
      refine H.then_ret ?_
      refine (H.ends rfl (.cons (.tmp rfl) (.cons (.tmp rfl) (.cons (.tmp rfl) .nil))) ?_)
      refine ⟨?_, rfl⟩
      have e : localB (Lib.cut s [64]).1 = false := by simpa using g18'
      simp [splitM, e, retV]
  · have g13' := g13
    try simp only [decide_eq_true_eq, decide_eq_false_iff_not, beq_iff_eq, beq_eq_false_iff_ne, bne_iff_ne, ne_eq, Bool.not_eq_true', Bool.not_eq_false', bne_eq_false_iff_eq, Bool.not_eq_eq_eq_not, Bool.not_true, Bool.not_false] at g13'
    refine Ops.guard_no rfl rfl rfl rfl g13 ?_
    refine Ops.guard_no rfl rfl rfl rfl g13 ?_
    refine Ops.quiet (Qt.pick_t rfl rfl g13) rfl ?_
    refine Ops.quiet (Qt.move rfl) rfl ?_
    refine Ops.guard rfl rfl rfl rfl (fun g18 => ?_) (fun g18 => ?_)
    · have g18' := g18
      try simp only [decide_eq_true_eq, decide_eq_false_iff_not, beq_iff_eq, beq_eq_false_iff_ne, bne_iff_ne, ne_eq, Bool.not_eq_true', Bool.not_eq_false', bne_eq_false_iff_eq, Bool.not_eq_eq_eq_not, Bool.not_true, Bool.not_false] at g18'
      exact Bool.noConfusion g18
    · have g18' := g18
      try simp only [decide_eq_true_eq, decide_eq_false_iff_not, beq_iff_eq, beq_eq_false_iff_ne, bne_iff_ne, ne_eq, Bool.not_eq_true', Bool.not_eq_false', bne_eq_false_iff_eq, Bool.not_eq_eq_eq_not, Bool.not_true, Bool.not_false] at g18'
      refine Ops.guard_no rfl rfl rfl rfl g18 ?_
      refine Ops.guard_no rfl rfl rfl rfl g18 ?_
      refine Ops.quiet (Qt.pick_t rfl rfl g18) rfl ?_
      refine Ops.nil ?_
      refine H.then_normal ?_
      refine H.cond_true rfl (by rfl) ?_
      refine H.seq ?_
      refine H.region ?_
      refine Ops.quiet (Qt.assign rfl) rfl ?_
      refine Ops.quiet (Qt.assign rfl) rfl ?_
      refine Ops.quiet (Qt.assign rfl) rfl ?_
      refine Ops.nil ?_
      refine H.then_normal ?_
      refine H.ret ?_
      refine H.then_ret ?_
      refine (H.ends rfl (.cons (.tmp rfl) (.cons (.tmp rfl) (.cons (.tmp rfl) .nil))) ?_)
      refine ⟨?_, rfl⟩
      have e : (Lib.cut s [64]).2.2 = false := by simpa using g13'
      simp [splitM, e, retV]
theorem spec_acanon (w0 : World) (hG : Gl w0) (s : Bs) (hl : s.length < 4294967281) (cs : List SProp) : Spec Tryz.prog w0 66 [str s] cs (fun v cs' => v = .tuple #[str (canonM s).1, bol (canonM s).2] ∧ cs' = cs) := by
  have hc := splitM_len s
  have hw := lowerB_len (splitM s).2.1
  refine Spec.of_body Tryz.func66 rfl Tryz.ntmps66 rfl ?_
  refine H.seq ?_
  refine H.region ?_
  refine Ops.quiet (Qt.assign rfl) rfl ?_
  refine Ops.quiet (Qt.assign rfl) rfl ?_
  refine Ops.nil ?_
  refine H.then_normal ?_
  refine H.seq ?_
  refine H.region ?_
  refine Ops.quiet (Qt.move rfl) rfl ?_
  refine Ops.eff (Ef.call (fok fab_all rfl Tryz.func79 rfl) rfl (spec_asplit w0 hG s hl _)) rfl ?_
  rintro _ c0 ⟨rfl, h0⟩; subst c0
  refine Ops.quiet (Qt.move rfl) rfl ?_
  refine Ops.quiet (Qt.extract rfl rfl) rfl ?_
  refine Ops.quiet (Qt.extract rfl rfl) rfl ?_
  refine Ops.quiet (Qt.extract rfl rfl) rfl ?_
  refine Ops.quiet (Qt.assign rfl) rfl ?_
  refine Ops.quiet (Qt.assign rfl) rfl ?_
  refine Ops.quiet (Qt.assign rfl) rfl ?_
  refine Ops.nil ?_
  refine H.then_normal ?_
  refine H.seq ?_
  refine H.seq ?_
  refine H.region ?_
  refine Ops.quiet (Qt.move rfl) rfl ?_
  refine Ops.quiet (Qt.not rfl) rfl ?_
  refine Ops.nil ?_
  refine H.then_normal ?_
  refine H.cond rfl (fun h14 => ?_) (fun h14 => ?_)
  · try simp only [decide_eq_true_eq, decide_eq_false_iff_not, beq_iff_eq, beq_eq_false_iff_ne, bne_iff_ne, ne_eq, Bool.not_eq_true', Bool.not_eq_false', bne_eq_false_iff_eq, Bool.not_eq_eq_eq_not, Bool.not_true, Bool.not_false] at h14
    refine H.seq ?_
    refine H.region ?_
    refine Ops.quiet (Qt.assign rfl) rfl ?_
    refine Ops.quiet (Qt.assign rfl) rfl ?_
    refine Ops.nil ?_
    refine H.then_normal ?_
    refine H.ret ?_
    refine H.then_ret ?_
    refine (H.ends rfl (.cons (.tmp rfl) (.cons (.tmp rfl) .nil)) ?_)
    refine ⟨?_, rfl⟩
    have e : (splitM s).2.2 = false := by simpa using h14
    simp [canonM, e, retV]
  · try simp only [decide_eq_true_eq, decide_eq_false_iff_not, beq_iff_eq, beq_eq_false_iff_ne, bne_iff_ne, ne_eq, Bool.not_eq_true', Bool.not_eq_false', bne_eq_false_iff_eq, Bool.not_eq_eq_eq_not, Bool.not_true, Bool.not_false] at h14
    refine H.skip ?_
    refine H.then_normal ?_
    refine H.seq ?_
    refine H.region ?_
    refine Ops.quiet (Qt.move rfl) rfl ?_
    refine Ops.quiet (Qt.cat rfl rfl (by (try simp only [List.length_append, List.length_cons, List.length_nil]); omega)) rfl ?_
    refine Ops.quiet (Qt.move rfl) rfl ?_
    refine Ops.eff (Ef.call (fok fab_all rfl Tryz.func80 rfl) rfl (spec_lower w0 (splitM s).2.1 (by omega) _)) rfl ?_
    rintro _ c0 ⟨rfl, h0⟩; subst c0
    refine Ops.quiet (Qt.cat rfl rfl (by (try simp only [List.length_append, List.length_cons, List.length_nil]); omega)) rfl ?_
    refine Ops.quiet (Qt.assign rfl) rfl ?_
    refine Ops.quiet (Qt.assign rfl) rfl ?_
    refine Ops.nil ?_
    refine H.then_normal ?_
    refine H.ret ?_
    refine (H.ends rfl (.cons (.tmp rfl) (.cons (.tmp rfl) .nil)) ?_)
    refine ⟨?_, rfl⟩
    have e : (splitM s).2.2 = true := by simpa using h14
    simp [canonM, e, retV]
theorem spec_mailbox (w0 : World) (hG : Gl w0) (s : Bs) (hl : s.length < 4294967281) (cs : List SProp) : Spec Tryz.prog w0 52 [str s] cs (fun v cs' => v = bol (mboxB s) ∧ cs' = cs) := by
  refine Spec.of_body Tryz.func52 rfl Tryz.ntmps52 rfl ?_
  refine H.seq ?_
  refine H.region ?_
  refine Ops.quiet (Qt.assign rfl) rfl ?_
  refine Ops.nil ?_
  refine H.then_normal ?_
  refine H.seq ?_
  refine H.region ?_
  refine Ops.quiet (Qt.move rfl) rfl ?_
  refine Ops.eff (Ef.call (fok fab_all rfl Tryz.func66 rfl) rfl (spec_acanon w0 hG s hl _)) rfl ?_
  rintro _ c0 ⟨rfl, h0⟩; subst c0
  refine Ops.quiet (Qt.move rfl) rfl ?_
  refine Ops.quiet (Qt.extract rfl rfl) rfl ?_
  refine Ops.quiet (Qt.extract rfl rfl) rfl ?_
  refine Ops.quiet (Qt.assign rfl) rfl ?_
  refine Ops.quiet (Qt.assign rfl) rfl ?_
  refine Ops.nil ?_
  refine H.then_normal ?_
  refine H.seq ?_
  refine H.region ?_
  refine Ops.quiet (Qt.move rfl) rfl ?_
  refine Ops.quiet (Qt.move rfl) rfl ?_
  refine Ops.guard rfl rfl rfl rfl (fun g11 => ?_) (fun g11 => ?_)
  · have g11' := g11
    try simp only [decide_eq_true_eq, decide_eq_false_iff_not, beq_iff_eq, beq_eq_false_iff_ne, bne_iff_ne, ne_eq, Bool.not_eq_true', Bool.not_eq_false', bne_eq_false_iff_eq, Bool.not_eq_eq_eq_not, Bool.not_true, Bool.not_false] at g11'
    refine Ops.quiet (Qt.move rfl) rfl ?_
    refine Ops.guard_yes rfl rfl rfl rfl g11 ?_
    refine Ops.quiet (Qt.move rfl) rfl ?_
    refine Ops.guard_yes rfl rfl rfl rfl g11 ?_
    refine Ops.quiet (Qt.seq rfl rfl) rfl ?_
    refine Ops.quiet (Qt.pick_t rfl rfl g11) rfl ?_
    refine Ops.quiet (Qt.assign rfl) rfl ?_
    refine Ops.nil ?_
    refine H.then_normal ?_
    refine H.ret ?_
    refine (H.ends rfl (.cons (.tmp rfl) .nil) ?_)
    refine ⟨congrArg bol ?_, rfl⟩
    rw [mboxB, g11, Bool.true_and]
  · have g11' := g11
    try simp only [decide_eq_true_eq, decide_eq_false_iff_not, beq_iff_eq, beq_eq_false_iff_ne, bne_iff_ne, ne_eq, Bool.not_eq_true', Bool.not_eq_false', bne_eq_false_iff_eq, Bool.not_eq_eq_eq_not, Bool.not_true, Bool.not_false] at g11'
    refine Ops.guard_no rfl rfl rfl rfl g11 ?_
    refine Ops.guard_no rfl rfl rfl rfl g11 ?_
    refine Ops.quiet (Qt.pick_f rfl rfl g11) rfl ?_
    refine Ops.quiet (Qt.assign rfl) rfl ?_
    refine Ops.nil ?_
    refine H.then_normal ?_
    refine H.ret ?_
    refine (H.ends rfl (.cons (.tmp rfl) .nil) ?_)
    refine ⟨congrArg bol ?_, rfl⟩
    rw [mboxB, g11]
    rfl
end Go.Proofs.YtbglphpinhjfeaaGreatDoor
