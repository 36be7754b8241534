/- A small separation logic over the machine: memory as a list of chunks that own blocks, judgments over the temporaries' and the memory's assertions, and their structural rules. Nothing of the program is named here. -/
import Derived.Laws.AppendOwn
import Derived.Below
import Derived.Tactics
import Derived.Orders
import Derived.Scope
namespace Go.Proofs.YtbglphpinhjfeaaGreatDoor
open Go Go.RowKit
set_option linter.unusedVariables false

/-! ### Fragments of memory and assertions -/
abbrev Frag := List (Nat × Obj)
abbrev SProp := Frag → Prop

def Stars : List SProp → Frag → Prop
  | [], F => F = []
  | c :: cs, F => ∃ F1 F2, F = F1 ++ F2 ∧ c F1 ∧ Stars cs F2

/-- The world w lies over the world w0: what w0 had is unchanged; what came behind is owned by the chunks. -/
def Own (w0 w : World) (cs : List SProp) : Prop :=
  Below w0.heap.size w0 w ∧ ∃ F, Stars cs F ∧ (F.map (·.1)).Nodup ∧ ∀ p ∈ F, w0.heap.size ≤ p.1 ∧ w.heap[p.1]? = some p.2

def pur (φ : Prop) : SProp := fun F => F = [] ∧ φ
def exS {α : Sort _} (P : α → SProp) : SProp := fun F => ∃ x, P x F
def bun (cs : List SProp) : SProp := fun F => Stars cs F
/-- The frozen range lies behind the cells, or is empty. -/
def Fz (n : Nat) (fz : Nat × Nat) : Prop := fz.1 = fz.2 ∨ n ≤ fz.1
theorem Fz.not {n : Nat} {fz : Nat × Nat} (h : Fz n fz) : ∀ o, o < n → ¬ (fz.1 ≤ o ∧ o < fz.2) := by
  intro o ho ⟨h1, h2⟩
  rcases h with h | h <;> omega
/-- A block whose cells are known, none of them frozen. -/
def blk (b : Nat) (cur : List Value) (ty : TypeId) : SProp := fun F =>
  ∃ fz : Nat × Nat, Fz cur.length fz ∧ F = [(b, .cells cur.toArray ty fz)]
/-- A block that is no row of cells: a map, an iterator. -/
def oblk (b : Nat) (o : Obj) : SProp := fun F => F = [(b, o)]

theorem Stars_append {a b : List SProp} {F : Frag} : Stars (a ++ b) F ↔ ∃ F1 F2, F = F1 ++ F2 ∧ Stars a F1 ∧ Stars b F2 := by
  induction a generalizing F with
  | nil => exact ⟨fun h => ⟨[], F, rfl, rfl, h⟩, fun ⟨F1, F2, h1, h2, h3⟩ => by cases h2; rw [h1]; exact h3⟩
  | cons c cs ih =>
    simp only [List.cons_append, Stars]
    constructor
    · rintro ⟨F1, F2, rfl, hc, h⟩
      obtain ⟨G1, G2, rfl, h1, h2⟩ := ih.1 h
      exact ⟨F1 ++ G1, G2, by simp, ⟨F1, G1, rfl, hc, h1⟩, h2⟩
    · rintro ⟨G1, G2, rfl, ⟨F1, F2, rfl, hc, h1⟩, h2⟩
      exact ⟨F1, F2 ++ G2, by simp, hc, ih.2 ⟨F2, G2, rfl, h1, h2⟩⟩

theorem Stars_perm {cs cs' : List SProp} (h : cs.Perm cs') : ∀ {F : Frag}, Stars cs F → ∃ F', F'.Perm F ∧ Stars cs' F' := by
  induction h with
  | nil => intro F h; exact ⟨F, .refl _, h⟩
  | cons c _ ih =>
    rintro F ⟨F1, F2, rfl, hc, h⟩
    obtain ⟨G, hp, hg⟩ := ih h
    exact ⟨F1 ++ G, List.Perm.append_left _ hp, F1, G, rfl, hc, hg⟩
  | swap a b l =>
    rintro F ⟨F1, F2, rfl, hb, F3, F4, rfl, ha, h⟩
    refine ⟨F3 ++ (F1 ++ F4), ?_, F3, _, rfl, ha, F1, F4, rfl, hb, h⟩
    rw [← List.append_assoc, ← List.append_assoc]
    exact List.Perm.append_right _ List.perm_append_comm
  | trans _ _ ih1 ih2 =>
    intro F h
    obtain ⟨G, hp, hg⟩ := ih1 h
    obtain ⟨G', hp', hg'⟩ := ih2 hg
    exact ⟨G', hp'.trans hp, hg'⟩

/-! ### Own -/
theorem Own.below {w0 w : World} {cs : List SProp} (h : Own w0 w cs) : Below w0.heap.size w0 w := h.1
theorem Own.start (w : World) : Own w w [] := ⟨Below.refl _ _, [], rfl, by simp, by simp⟩
theorem Own.perm {w0 w : World} {cs cs' : List SProp} (hp : cs.Perm cs') (h : Own w0 w cs) : Own w0 w cs' := by
  obtain ⟨hb, F, hs, hn, hw⟩ := h
  obtain ⟨F', hp', hs'⟩ := Stars_perm hp hs
  exact ⟨hb, F', hs', ((hp'.map (·.1)).nodup_iff).2 hn, fun p hm => hw p (hp'.mem_iff.1 hm)⟩
theorem Own.tail {w0 w : World} {c : SProp} {cs : List SProp} (h : Own w0 w (c :: cs)) : Own w0 w cs := by
  obtain ⟨hb, F, ⟨F1, F2, rfl, hc, h2⟩, hn, hw⟩ := h
  refine ⟨hb, F2, h2, ?_, fun p hm => hw p (List.mem_append_right _ hm)⟩
  rw [List.map_append] at hn
  exact (List.nodup_append.1 hn).2.1
theorem Own.sub {w0 w : World} {cs cs' : List SProp} (hs : cs'.Sublist cs) (h : Own w0 w cs) : Own w0 w cs' := by
  induction hs generalizing w with
  | slnil => exact h
  | cons c _ ih => exact ih h.tail
  | cons_cons c _ ih =>
    obtain ⟨hb, F, ⟨F1, F2, rfl, hc, h2⟩, hn, hw⟩ := h
    have h0 : Own w0 w _ := ih (w := w) (Own.tail ⟨hb, F1 ++ F2, ⟨F1, F2, rfl, hc, h2⟩, hn, hw⟩)
    clear ih h0
    rename_i l1 l2 hsub
    have key : ∀ {l1 l2 : List SProp}, l1.Sublist l2 → ∀ {F}, Stars l2 F → ∃ G, Stars l1 G ∧ G.Sublist F := by
      intro l1 l2 hs
      induction hs with
      | slnil => intro F h; exact ⟨F, h, .refl _⟩
      | cons c _ ih =>
        rintro F ⟨F1, F2, rfl, _, h⟩
        obtain ⟨G, hg, hs⟩ := ih h
        exact ⟨G, hg, hs.trans (List.sublist_append_right _ _)⟩
      | cons_cons c _ ih =>
        rintro F ⟨F1, F2, rfl, hc, h⟩
        obtain ⟨G, hg, hs⟩ := ih h
        exact ⟨F1 ++ G, ⟨F1, G, rfl, hc, hg⟩, List.Sublist.append (.refl _) hs⟩
    obtain ⟨G, hg, hgs⟩ := key hsub h2
    refine ⟨hb, F1 ++ G, ⟨F1, G, rfl, hc, hg⟩, ?_, fun p hm => hw p ?_⟩
    · exact List.Nodup.sublist (List.Sublist.map _ (List.Sublist.append (.refl _) hgs)) hn
    · exact (List.Sublist.append (.refl F1) hgs).subset hm

theorem Own.ex_iff {α : Sort _} {w0 w : World} {P : α → SProp} {cs : List SProp} : Own w0 w (exS P :: cs) ↔ ∃ x, Own w0 w (P x :: cs) := by
  constructor
  · rintro ⟨hb, F, ⟨F1, F2, rfl, ⟨x, hx⟩, h2⟩, hn, hw⟩
    exact ⟨x, hb, F1 ++ F2, ⟨F1, F2, rfl, hx, h2⟩, hn, hw⟩
  · rintro ⟨x, hb, F, ⟨F1, F2, rfl, hx, h2⟩, hn, hw⟩
    exact ⟨hb, F1 ++ F2, ⟨F1, F2, rfl, ⟨x, hx⟩, h2⟩, hn, hw⟩
theorem Own.bun_iff {w0 w : World} {as cs : List SProp} : Own w0 w (bun as :: cs) ↔ Own w0 w (as ++ cs) := by
  unfold Own
  simp only [Stars_append, Stars, bun]
theorem Own.pur_iff {w0 w : World} {φ : Prop} {cs : List SProp} : Own w0 w (pur φ :: cs) ↔ φ ∧ Own w0 w cs := by
  unfold Own
  simp only [Stars, pur]
  constructor
  · rintro ⟨hb, F, ⟨F1, F2, rfl, ⟨rfl, hφ⟩, h2⟩, hn, hw⟩
    exact ⟨hφ, hb, F2, h2, by simpa using hn, by simpa using hw⟩
  · rintro ⟨hφ, hb, F, h2, hn, hw⟩
    exact ⟨hb, F, ⟨[], F, rfl, ⟨rfl, hφ⟩, h2⟩, hn, hw⟩

/-- What changed between two worlds: blocks in S, and new ones. -/
structure Only (w w' : World) (S : Nat → Prop) : Prop where
  os : w'.os = w.os
  tape : w'.tape = w.tape
  output : w'.output = w.output
  size : w.heap.size ≤ w'.heap.size
  block : ∀ k, k < w.heap.size → ¬ S k → w'.heap[k]? = w.heap[k]?

theorem Only.alloc (w : World) (o : Obj) (S : Nat → Prop) : Only w (w.alloc o) S :=
  ⟨rfl, rfl, rfl, by simp, fun k hk _ => Below.heap_alloc _ _ _ hk⟩
theorem Only.of_grownBy {w w' : World} {row : Option Nat} (h : w.grownBy w' row) : Only w w' (fun k => row = some k) :=
  ⟨h.os, h.tape, h.output, h.size, fun k hk hne => h.block k hk (fun e => hne e.symm)⟩
theorem Only.setCell (w : World) (p : Addr) (u : Value) : Only w (w.setCell p u) (· = p.block) :=
  ⟨rfl, rfl, rfl, by simp [World.setCell], fun k hk hne => Below.heap_setCell _ _ _ _ hne⟩

/-- THE FRAME RULE: the first chunk's blocks alone are written; what comes behind are new blocks. -/
theorem Own.frame {w0 w w' : World} {c c' : SProp} {cs : List SProp} (h : Own w0 w (c :: cs))
    (hstep : ∀ F1, c F1 → (F1.map (·.1)).Nodup → (∀ p ∈ F1, w0.heap.size ≤ p.1 ∧ w.heap[p.1]? = some p.2) →
      Only w w' (fun k => k ∈ F1.map (·.1)) ∧ ∃ F1', c' F1' ∧ (F1'.map (·.1)).Nodup ∧ (∀ p ∈ F1', w'.heap[p.1]? = some p.2) ∧ (∀ p ∈ F1', p.1 ∈ F1.map (·.1) ∨ w.heap.size ≤ p.1)) :
    Own w0 w' (c' :: cs) := by
  obtain ⟨hb, F, ⟨F1, F2, rfl, hc, h2⟩, hn, hw⟩ := h
  rw [List.map_append] at hn
  obtain ⟨hn1, hn2, hdis⟩ := List.nodup_append.1 hn
  obtain ⟨ho, F1', hc', hn1', hw', hk'⟩ := hstep F1 hc hn1 (fun p hm => hw p (List.mem_append_left _ hm))
  have hlt : ∀ p ∈ F1 ++ F2, p.1 < w.heap.size := fun p hm => (Array.getElem?_eq_some_iff.1 (hw p hm).2).1
  refine ⟨hb.trans ⟨ho.os, ho.tape, ho.output, ho.size, fun k hk => ?_⟩, F1' ++ F2, ⟨F1', F2, rfl, hc', h2⟩, ?_, ?_⟩
  · refine ho.block k (Nat.lt_of_lt_of_le hk hb.size) fun hm => ?_
    obtain ⟨p, hp, rfl⟩ := List.mem_map.1 hm
    have := (hw p (List.mem_append_left _ hp)).1
    omega
  · rw [List.map_append]
    refine List.nodup_append.2 ⟨hn1', hn2, ?_⟩
    intro a ha b hb' hab
    subst hab
    obtain ⟨p, hp, rfl⟩ := List.mem_map.1 ha
    rcases hk' p hp with h | h
    · exact hdis _ h _ hb' rfl
    · obtain ⟨q, hq, hqe⟩ := List.mem_map.1 hb'
      have := hlt q (List.mem_append_right _ hq)
      omega
  · intro p hp
    rcases List.mem_append.1 hp with hp | hp
    · refine ⟨?_, hw' p hp⟩
      rcases hk' p hp with h | h
      · obtain ⟨q, hq, hqe⟩ := List.mem_map.1 h
        have := (hw q (List.mem_append_left _ hq)).1
        omega
      · exact Nat.le_trans hb.size h
    · have h1 := hw p (List.mem_append_right _ hp)
      refine ⟨h1.1, (ho.block p.1 (hlt p (List.mem_append_right _ hp)) fun hm => ?_).trans h1.2⟩
      exact hdis _ hm _ (List.mem_map_of_mem hp) rfl
/-- Nothing that is owned is written. -/
theorem Own.frame0 {w0 w w' : World} {c' : SProp} {cs : List SProp} (h : Own w0 w cs) (ho : Only w w' (fun _ => False))
    (hc' : ∃ F1', c' F1' ∧ (F1'.map (·.1)).Nodup ∧ (∀ p ∈ F1', w'.heap[p.1]? = some p.2) ∧ (∀ p ∈ F1', w.heap.size ≤ p.1)) : Own w0 w' (c' :: cs) := by
  refine Own.frame (c := pur True) (Own.pur_iff.2 ⟨trivial, h⟩) ?_
  rintro F1 ⟨rfl, _⟩ _ _
  obtain ⟨F1', h1, h2, h3, h4⟩ := hc'
  exact ⟨⟨ho.os, ho.tape, ho.output, ho.size, fun k hk _ => ho.block k hk (by simp)⟩, F1', h1, h2, h3, fun p hp => .inr (h4 p hp)⟩
theorem Own.same {w0 w w' : World} {cs : List SProp} (h : Own w0 w cs) (ho : Only w w' (fun _ => False)) : Own w0 w' cs := by
  have := Own.frame0 (c' := pur True) h ho ⟨[], ⟨rfl, trivial⟩, by simp, by simp, by simp⟩
  exact this.tail
theorem Own.drew {w0 w : World} {cs : List SProp} (h : Own w0 w cs) : Own w0 w.drew cs :=
  h.same ⟨rfl, rfl, rfl, Nat.le_refl _, fun _ _ _ => rfl⟩
/-- What it says of w when the blocks are the same is all that counts. -/
theorem Own.alloc {w0 w : World} {cs : List SProp} (h : Own w0 w cs) (cur : List Value) (ty : TypeId) :
    Own w0 (w.alloc (.cells cur.toArray ty)) (blk w.heap.size cur ty :: cs) := by
  refine Own.frame0 h (Only.alloc _ _ _) ⟨[(w.heap.size, .cells cur.toArray ty)], ⟨(0, 0), .inl rfl, rfl⟩, by simp, ?_, by simp⟩
  · intro p hp
    rw [List.mem_singleton.1 hp]
    exact heap_alloc_new w _

/-! ### One chunk for another, at its place -/
inductive Upd : List SProp → SProp → SProp → List SProp → Prop
  | head {c c' cs} : Upd (c :: cs) c c' (c' :: cs)
  | tail {d c c' cs cs'} : Upd cs c c' cs' → Upd (d :: cs) c c' (d :: cs')
theorem Upd.perm {cs c c' cs'} (h : Upd cs c c' cs') : ∃ r, cs.Perm (c :: r) ∧ cs'.Perm (c' :: r) := by
  induction h with
  | head => exact ⟨_, .refl _, .refl _⟩
  | @tail d c c' cs cs' _ ih =>
    obtain ⟨r, h1, h2⟩ := ih
    exact ⟨d :: r, (List.Perm.cons d h1).trans (.swap _ _ _), (List.Perm.cons d h2).trans (.swap _ _ _)⟩
theorem Own.upd {w0 w w' : World} {cs c c' cs'} (hu : Upd cs c c' cs') (h : Own w0 w cs) (f : ∀ r, Own w0 w (c :: r) → Own w0 w' (c' :: r)) : Own w0 w' cs' := by
  obtain ⟨r, h1, h2⟩ := hu.perm
  exact (f r (h.perm h1)).perm h2.symm
theorem Own.mem {w0 w : World} {cs : List SProp} {c : SProp} (h : Own w0 w cs) (hm : c ∈ cs) : ∃ F, c F ∧ (F.map (·.1)).Nodup ∧ ∀ p ∈ F, w0.heap.size ≤ p.1 ∧ w.heap[p.1]? = some p.2 := by
  induction hm with
  | head cs =>
    obtain ⟨hb, F, ⟨F1, F2, rfl, hc, h2⟩, hn, hw⟩ := h
    rw [List.map_append] at hn
    exact ⟨F1, hc, (List.nodup_append.1 hn).1, fun p hp => hw p (List.mem_append_left _ hp)⟩
  | tail d _ ih => exact ih h.tail
theorem Own.blk_at {w0 w : World} {cs : List SProp} {b : Nat} {cur : List Value} {ty : TypeId} (h : Own w0 w cs) (hm : blk b cur ty ∈ cs) :
    ∃ fz : Nat × Nat, Fz cur.length fz ∧ w.heap[b]? = some (.cells cur.toArray ty fz) ∧ w0.heap.size ≤ b := by
  obtain ⟨F, ⟨fz, hfz, rfl⟩, _, hw⟩ := h.mem hm
  have := hw _ (List.mem_singleton_self _)
  exact ⟨fz, hfz, this.2, this.1⟩
theorem Own.blk_cell {w0 w : World} {cs : List SProp} {b : Nat} {cur : List Value} {ty : TypeId} (h : Own w0 w cs) (hm : blk b cur ty ∈ cs) (o : Nat) :
    w.cell? ⟨b, o, none⟩ = cur[o]? := by
  obtain ⟨fz, _, hw, _⟩ := h.blk_at hm
  simp [World.cell?, hw]

/-! ### Temporaries -/
abbrev Env := List (Nat × Value)
theorem beq_false {a b : Nat} : Nat.beq a b = false ↔ a ≠ b := by
  constructor
  · intro h e
    subst e
    simp at h
  · intro h
    cases hb : Nat.beq a b
    · rfl
    · exact absurd (Nat.eq_of_beq_eq_true hb) h
def lk : Env → Nat → Option Value
  | [], _ => none
  | (t, v) :: e, k => bif Nat.beq t k then some v else lk e k
def evE (e : Env) : Operand → Option Value
  | .tmp t => lk e t
  | .const v => some v
  | .global g => some (.pointer (some ⟨g, 0, none⟩))
  | .func f => some (.func (.func f) #[] #[])
def evL (e : Env) : List Operand → Option (List Value)
  | [] => some []
  | x :: xs => match evE e x, evL e xs with
    | some v, some vs => some (v :: vs)
    | _, _ => none
def put (e : Env) : Option Tmp → Value → Env
  | some d, v => (d, v) :: e
  | none, _ => e
def dstOk (N : Nat) : Option Tmp → Bool
  | some d => Nat.blt d N
  | none => true
structure EnvOK (N : Nat) (e : Env) (a : Act) : Prop where
  defers : a.defers = []
  size : a.tmps.size = N
  look : ∀ t v, lk e t = some v → a.tmps.getD t undef = v
theorem EnvOK.ev {N : Nat} {e : Env} {a : Act} (h : EnvOK N e a) {x : Operand} {v : Value} (hx : evE e x = some v) : a.eval x = v := by
  cases x with
  | tmp t => exact h.look t v hx
  | const u => injection hx
  | global g => injection hx
  | func f => injection hx
theorem EnvOK.evs {N : Nat} {e : Env} {a : Act} (h : EnvOK N e a) : ∀ {xs : List Operand} {vs : List Value}, evL e xs = some vs → xs.map a.eval = vs
  | [], vs, hx => by simpa [evL] using hx
  | x :: xs, vs, hx => by
    simp only [evL] at hx
    split at hx
    · rename_i v us hv hu
      injection hx with hx
      subst hx
      rw [List.map_cons, h.ev hv, h.evs hu]
    · cases hx
theorem EnvOK.put {N : Nat} {e : Env} {a : Act} (h : EnvOK N e a) {d : Option Tmp} (hd : dstOk N d = true) (v : Value) : EnvOK N (put e d v) (a.put d v) := by
  cases d with
  | none => exact h
  | some d =>
    have hd' : d < a.tmps.size := by rw [h.size]; simpa [dstOk] using hd
    refine ⟨h.defers, by simp [Act.put, h.size], fun t u ht => ?_⟩
    simp only [Proofs.YtbglphpinhjfeaaGreatDoor.put, lk] at ht
    by_cases htd : d = t
    · subst htd
      simp at ht
      simp [Act.put, hd', ht]
    · have : Nat.beq d t = false := beq_false.2 htd
      rw [this] at ht
      have := h.look t u ht
      simp [Act.put, Array.getElem?_setIfInBounds_ne htd] at this ⊢
      exact this
theorem EnvOK.sub {N : Nat} {e e' : Env} {a : Act} (h : EnvOK N e a) (hs : ∀ t v, lk e' t = some v → lk e t = some v) : EnvOK N e' a :=
  ⟨h.defers, h.size, fun t v ht => h.look t v (hs t v ht)⟩

/-- Each of a list of slots holds its value. -/
def ESub : Env → Env → Prop
  | [], _ => True
  | (t, v) :: e', e => lk e t = some v ∧ ESub e' e
theorem ESub.ok : ∀ {e' e : Env}, ESub e' e → ∀ t v, lk e' t = some v → lk e t = some v
  | [], _, _, t, v, h => by simp [lk] at h
  | (t', v') :: e', e, ⟨h1, h2⟩, t, v, h => by
    simp only [lk] at h
    by_cases ht : t' = t
    · subst ht; simp at h; subst h; exact h1
    · rw [beq_false.2 ht] at h; exact ESub.ok h2 t v h

/-! ### The judgment -/
def H (N : Nat) (w0 : World) (e : Env) (cs : List SProp) (J : Act → World → Prop) : Prop := ∀ a w, EnvOK N e a → Own w0 w cs → J a w

section
variable {N : Nat} {w0 : World} {e : Env} {cs : List SProp} {J : Act → World → Prop}
theorem H.conv {cs' : List SProp} (hc : ∀ w, Own w0 w cs → Own w0 w cs') (h : H N w0 e cs' J) : H N w0 e cs J := fun a w he ho => h a w he (hc w ho)
theorem H.perm {cs' : List SProp} (hp : cs.Perm cs') (h : H N w0 e cs' J) : H N w0 e cs J := h.conv fun _ => Own.perm hp
theorem H.sub {cs' : List SProp} (hp : cs'.Sublist cs) (h : H N w0 e cs' J) : H N w0 e cs J := h.conv fun _ => Own.sub hp
theorem H.drop {c : SProp} (h : H N w0 e cs J) : H N w0 e (c :: cs) J := h.conv fun _ => Own.tail
theorem H.ex {α : Sort _} {P : α → SProp} (h : ∀ x, H N w0 e (P x :: cs) J) : H N w0 e (exS P :: cs) J := fun a w he ho =>
  let ⟨x, hx⟩ := Own.ex_iff.1 ho; h x a w he hx
theorem H.bun {as : List SProp} (h : H N w0 e (as ++ cs) J) : H N w0 e (bun as :: cs) J := h.conv fun _ => Own.bun_iff.1
theorem H.pur {φ : Prop} (h : φ → H N w0 e cs J) : H N w0 e (pur φ :: cs) J := fun a w he ho =>
  let ⟨hφ, hx⟩ := Own.pur_iff.1 ho; h hφ a w he hx
theorem H.fact {φ : Prop} (hf : ∀ w, Own w0 w cs → φ) (h : φ → H N w0 e cs J) : H N w0 e cs J := fun a w he ho => h (hf w ho) a w he ho
theorem H.env {e' : Env} (hs : ∀ t v, lk e' t = some v → lk e t = some v) (h : H N w0 e' cs J) : H N w0 e cs J := fun a w he ho => h a w (he.sub hs) ho
theorem H.mono {J' : Act → World → Prop} (hj : ∀ a w, J' a w → J a w) (h : H N w0 e cs J') : H N w0 e cs J := fun a w he ho => hj a w (h a w he ho)
end
/-- The chunk at place i comes to the front. -/
def front (i : Nat) (cs : List SProp) : List SProp := match cs[i]? with
  | some c => c :: cs.eraseIdx i
  | none => cs
theorem getElem_cons_eraseIdx_perm {α : Type _} : ∀ (l : List α) (i : Nat) (h : i < l.length), l.Perm (l[i] :: l.eraseIdx i)
  | x :: l, 0, _ => .refl _
  | x :: l, i + 1, h => ((getElem_cons_eraseIdx_perm l i (by simpa using h)).cons x).trans (.swap _ _ _)
theorem front_perm (i : Nat) (cs : List SProp) : cs.Perm (front i cs) := by
  unfold front
  split
  · rename_i c hc
    obtain ⟨hi, rfl⟩ := List.getElem?_eq_some_iff.1 hc
    exact getElem_cons_eraseIdx_perm cs i hi
  · exact .refl _
theorem H.front (i : Nat) {N : Nat} {w0 : World} {e : Env} {cs : List SProp} {J : Act → World → Prop} (h : H N w0 e (front i cs) J) : H N w0 e cs J := h.perm (front_perm i cs)

theorem H.fr1 {N : Nat} {w0 : World} {e : Env} {cs : List SProp} {J : Act → World → Prop} {a0 x : SProp} (h : H N w0 e (x :: a0 :: cs) J) : H N w0 e (a0 :: x :: cs) J := H.perm (List.perm_middle (l₁ := [a0])) h
theorem H.fr2 {N : Nat} {w0 : World} {e : Env} {cs : List SProp} {J : Act → World → Prop} {a0 a1 x : SProp} (h : H N w0 e (x :: a0 :: a1 :: cs) J) : H N w0 e (a0 :: a1 :: x :: cs) J := H.perm (List.perm_middle (l₁ := [a0, a1])) h
theorem H.fr3 {N : Nat} {w0 : World} {e : Env} {cs : List SProp} {J : Act → World → Prop} {a0 a1 a2 x : SProp} (h : H N w0 e (x :: a0 :: a1 :: a2 :: cs) J) : H N w0 e (a0 :: a1 :: a2 :: x :: cs) J := H.perm (List.perm_middle (l₁ := [a0, a1, a2])) h
theorem H.fr4 {N : Nat} {w0 : World} {e : Env} {cs : List SProp} {J : Act → World → Prop} {a0 a1 a2 a3 x : SProp} (h : H N w0 e (x :: a0 :: a1 :: a2 :: a3 :: cs) J) : H N w0 e (a0 :: a1 :: a2 :: a3 :: x :: cs) J := H.perm (List.perm_middle (l₁ := [a0, a1, a2, a3])) h
theorem H.fr5 {N : Nat} {w0 : World} {e : Env} {cs : List SProp} {J : Act → World → Prop} {a0 a1 a2 a3 a4 x : SProp} (h : H N w0 e (x :: a0 :: a1 :: a2 :: a3 :: a4 :: cs) J) : H N w0 e (a0 :: a1 :: a2 :: a3 :: a4 :: x :: cs) J := H.perm (List.perm_middle (l₁ := [a0, a1, a2, a3, a4])) h
theorem H.fr6 {N : Nat} {w0 : World} {e : Env} {cs : List SProp} {J : Act → World → Prop} {a0 a1 a2 a3 a4 a5 x : SProp} (h : H N w0 e (x :: a0 :: a1 :: a2 :: a3 :: a4 :: a5 :: cs) J) : H N w0 e (a0 :: a1 :: a2 :: a3 :: a4 :: a5 :: x :: cs) J := H.perm (List.perm_middle (l₁ := [a0, a1, a2, a3, a4, a5])) h
theorem H.fr7 {N : Nat} {w0 : World} {e : Env} {cs : List SProp} {J : Act → World → Prop} {a0 a1 a2 a3 a4 a5 a6 x : SProp} (h : H N w0 e (x :: a0 :: a1 :: a2 :: a3 :: a4 :: a5 :: a6 :: cs) J) : H N w0 e (a0 :: a1 :: a2 :: a3 :: a4 :: a5 :: a6 :: x :: cs) J := H.perm (List.perm_middle (l₁ := [a0, a1, a2, a3, a4, a5, a6])) h

/-! ### Operations -/
/-- It yields v and writes nothing. -/
def Qt (P : Program) (N : Nat) (w0 : World) (e : Env) (cs : List SProp) (o : Op) (ty : TypeId) (v : Value) : Prop :=
  ∀ a w, EnvOK N e a → Own w0 w cs → ∀ o' : Oper, o'.op = o → o'.type = ty → (execOp a.eval o').run P w = .ok (.value v) w
/-- It yields some v, and owns some cs' then, as R tells. -/
def Ef (P : Program) (N : Nat) (w0 : World) (e : Env) (cs : List SProp) (o : Op) (ty : TypeId) (R : Value → List SProp → Prop) : Prop :=
  ∀ a w, EnvOK N e a → Own w0 w cs → ∀ o' : Oper, o'.op = o → o'.type = ty → ∀ (K : Act → World → Prop) (Q : Exit → Act → World → Prop),
    (∀ v cs' w', R v cs' → Own w0 w' cs' → K (a.put o'.dst v) w') → o'.wp P a w K Q

section
variable {P : Program} {N : Nat} {w0 : World} {e : Env} {cs : List SProp} {Q : Exit → Act → World → Prop} {ops : Array Oper} {rest : List Oper}
theorem Qt.ef {o : Op} {ty : TypeId} {v : Value} (h : Qt P N w0 e cs o ty v) : Ef P N w0 e cs o ty (fun u cs' => u = v ∧ cs' = cs) := by
  intro a w he ho o' h1 h2 K Q hK
  unfold Oper.wp
  rw [h a w he ho o' h1 h2]
  exact hK v cs w ⟨rfl, rfl⟩ ho
abbrev Ops (P : Program) (N : Nat) (w0 : World) (ops : Array Oper) (l : List Oper) (Q : Exit → Act → World → Prop) (e : Env) (cs : List SProp) : Prop := H N w0 e cs (wpList P ops Q l)
theorem Ops.nil (h : H N w0 e cs (Q .normal)) : Ops P N w0 ops [] Q e cs := h
theorem Ops.quiet {d : Option Tmp} {o : Op} {ty : TypeId} {pos : String} {after : Array Edge} {v : Value} (hq : Qt P N w0 e cs o ty v) (hd : dstOk N d = true)
    (h : Ops P N w0 ops rest Q (put e d v) cs) : Ops P N w0 ops (⟨d, o, ty, pos, after, none⟩ :: rest) Q e cs := by
  intro a w he ho
  simp only [wpList, Region.wanted, if_true]
  left
  unfold Oper.wp
  rw [hq a w he ho _ rfl rfl]
  exact h _ _ (he.put hd v) ho
theorem Ops.eff {d : Option Tmp} {o : Op} {ty : TypeId} {pos : String} {after : Array Edge} {R : Value → List SProp → Prop} (hq : Ef P N w0 e cs o ty R) (hd : dstOk N d = true)
    (h : ∀ v cs', R v cs' → Ops P N w0 ops rest Q (put e d v) cs') : Ops P N w0 ops (⟨d, o, ty, pos, after, none⟩ :: rest) Q e cs := by
  intro a w he ho
  simp only [wpList, Region.wanted, if_true]
  left
  exact hq a w he ho _ rfl rfl _ _ fun v cs' w' hr ho' => h v cs' hr _ _ (he.put hd v) ho'
/-- A guarded operation: the guard's value is known, or the case is split. -/
theorem yielded_of {e : Env} {a : Act} (he : EnvOK N e a) {j : Nat} {dj : Tmp} {t : Bool} (hj : (ops[j]?).bind (·.dst) = some dj) (hN : Nat.blt dj N = true) (hv : lk e dj = some (.bool t)) : yielded ops a.tmps j = some t := by
  have h1 := he.look dj _ hv
  have h2 : dj < a.tmps.size := by rw [he.size]; simpa using hN
  unfold yielded
  rw [hj]
  simp [h2] at h1
  simp [h2, h1]
theorem yielded_un {e : Env} {a : Act} (he : EnvOK N e a) {j : Nat} {dj : Tmp} (hj : (ops[j]?).bind (·.dst) = some dj) (hN : Nat.blt dj N = true) (hv : lk e dj = some undef) : yielded ops a.tmps j = none := by
  have h1 := he.look dj _ hv
  have h2 : dj < a.tmps.size := by rw [he.size]; simpa using hN
  unfold yielded
  rw [hj]
  simp [h2] at h1
  simp [h2, h1, undef]
/-- The guard itself was not reached. -/
theorem Ops.guard_un {d : Option Tmp} {o : Op} {ty : TypeId} {pos : String} {after : Array Edge} {j : Nat} {dj : Tmp} {want : Bool} (hj : (ops[j]?).bind (·.dst) = some dj) (hN : Nat.blt dj N = true) (hv : lk e dj = some undef) (hd : dstOk N d = true)
    (hn : Ops P N w0 ops rest Q (put e d undef) cs) : Ops P N w0 ops (⟨d, o, ty, pos, after, some (j, want)⟩ :: rest) Q e cs := by
  intro a w he ho
  have hyd := yielded_un (ops := ops) he hj hN hv
  have h1 := hn _ _ (he.put hd undef) ho
  simp only [wpList, Region.wanted, hyd]
  rw [if_neg (by simp)]
  exact h1
theorem Ops.guard {d : Option Tmp} {o : Op} {ty : TypeId} {pos : String} {after : Array Edge} {j : Nat} {dj : Tmp} {want t : Bool} (hj : (ops[j]?).bind (·.dst) = some dj) (hN : Nat.blt dj N = true) (hv : lk e dj = some (.bool t)) (hd : dstOk N d = true)
    (hy : t = want → Ops P N w0 ops (⟨d, o, ty, pos, after, none⟩ :: rest) Q e cs) (hn : t = (!want) → Ops P N w0 ops rest Q (put e d undef) cs) :
    Ops P N w0 ops (⟨d, o, ty, pos, after, some (j, want)⟩ :: rest) Q e cs := by
  intro a w he ho
  have hyd := yielded_of (ops := ops) he hj hN hv
  by_cases htw : t = want
  · have h1 := hy htw a w he ho
    simp only [wpList, Region.wanted, if_true] at h1
    show (if Region.wanted ⟨d, o, ty, pos, after, some (j, want)⟩ (yielded ops a.tmps) then _ else _)
    rw [if_pos (by simp [Region.wanted, hyd, htw])]
    exact h1
  · have hne : t = (!want) := by cases t <;> cases want <;> simp_all
    have h1 := hn hne _ _ (he.put hd undef) ho
    simp only [wpList, Region.wanted, hyd]
    rw [if_neg (by simp [htw])]
    exact h1
end

theorem guard_ne {t want : Bool} (h : t = want) (h' : t = !want) {p : Prop} : p := by subst h; cases t <;> cases h'
section
variable {P : Program} {N : Nat} {w0 : World} {e : Env} {cs : List SProp} {Q : Exit → Act → World → Prop} {ops : Array Oper} {rest : List Oper}
theorem Ops.guard_yes {d : Option Tmp} {o : Op} {ty : TypeId} {pos : String} {after : Array Edge} {j : Nat} {dj : Tmp} {want t : Bool} (hj : (ops[j]?).bind (·.dst) = some dj) (hN : Nat.blt dj N = true) (hv : lk e dj = some (.bool t)) (hd : dstOk N d = true) (ht : t = want)
    (hy : Ops P N w0 ops (⟨d, o, ty, pos, after, none⟩ :: rest) Q e cs) : Ops P N w0 ops (⟨d, o, ty, pos, after, some (j, want)⟩ :: rest) Q e cs :=
  Ops.guard hj hN hv hd (fun _ => hy) (fun h => guard_ne ht h)
theorem Ops.guard_no {d : Option Tmp} {o : Op} {ty : TypeId} {pos : String} {after : Array Edge} {j : Nat} {dj : Tmp} {want t : Bool} (hj : (ops[j]?).bind (·.dst) = some dj) (hN : Nat.blt dj N = true) (hv : lk e dj = some (.bool t)) (hd : dstOk N d = true) (ht : t = (!want))
    (hn : Ops P N w0 ops rest Q (put e d undef) cs) : Ops P N w0 ops (⟨d, o, ty, pos, after, some (j, want)⟩ :: rest) Q e cs :=
  Ops.guard hj hN hv hd (fun h => guard_ne h ht) (fun _ => hn)
end

/-! ### Code -/
section
variable {P : Program} {N : Nat} {w0 : World} {e : Env} {cs : List SProp} {Q : Exit → Act → World → Prop}
theorem H.seq {x y : Code} (h : H N w0 e cs (x.wp P (Exit.then (y.wp P Q) Q))) : H N w0 e cs ((Code.seq x y).wp P Q) := h.mono fun _ _ => wp_seq
theorem H.skip (h : H N w0 e cs (Q .normal)) : H N w0 e cs (Code.skip.wp P Q) := h.mono fun _ _ => wp_skip
theorem H.ret (h : H N w0 e cs (Q .ret)) : H N w0 e cs (Code.ret.wp P Q) := h.mono fun _ _ => wp_ret
theorem H.exit {id : Nat} (h : H N w0 e cs (Q (.exit id))) : H N w0 e cs ((Code.exit id).wp P Q) := h.mono fun _ _ => wp_exit
theorem H.label {l : Nat} (h : H N w0 e cs (Q .normal)) : H N w0 e cs ((Code.label l).wp P Q) := h.mono fun _ _ => wp_label
theorem H.block {id : Nat} {c : Code} (h : H N w0 e cs (c.wp P (Exit.inBlock id Q))) : H N w0 e cs ((Code.block id c).wp P Q) := h.mono fun _ _ => wp_block
theorem H.region {id : Nat} {l : List Oper} (h : Ops P N w0 l.toArray l Q e cs) : H N w0 e cs ((Code.region id l.toArray false).wp P Q) := H.mono (fun _ _ => wp_region_lit) h
theorem H.cond {c : Operand} {x y : Code} {t : Bool} (hc : evE e c = some (.bool t)) (ht : t = true → H N w0 e cs (x.wp P Q)) (hf : t = false → H N w0 e cs (y.wp P Q)) : H N w0 e cs ((Code.cond c x y).wp P Q) := by
  intro a w he ho
  exact wp_cond_split (he.ev hc) (fun h => ht h a w he ho) (fun h => hf h a w he ho)
theorem H.cond_true {c : Operand} {x y : Code} {t : Bool} (hc : evE e c = some (.bool t)) (ht : t = true) (h : H N w0 e cs (x.wp P Q)) : H N w0 e cs ((Code.cond c x y).wp P Q) :=
  H.cond hc (fun _ => h) (fun hf => by rw [ht] at hf; cases hf)
theorem H.cond_false {c : Operand} {x y : Code} {t : Bool} (hc : evE e c = some (.bool t)) (ht : t = false) (h : H N w0 e cs (y.wp P Q)) : H N w0 e cs ((Code.cond c x y).wp P Q) :=
  H.cond hc (fun hf => by rw [ht] at hf; cases hf) (fun _ => h)
theorem H.scope {c : Code} (h : H N w0 e cs (c.wp P (Exit.noGoto Q))) : H N w0 e cs ((Code.scope c).wp P Q) := h.mono fun _ _ => wp_scope_straight
theorem H.scope_normal (h : H N w0 e cs (Q .normal)) : H N w0 e cs (Exit.noGoto Q .normal) := h
theorem H.scope_exit {id : Nat} (h : H N w0 e cs (Q (.exit id))) : H N w0 e cs (Exit.noGoto Q (.exit id)) := h
theorem H.scope_ret (h : H N w0 e cs (Q .ret)) : H N w0 e cs (Exit.noGoto Q .ret) := h
theorem H.then_normal {nx : Act → World → Prop} (h : H N w0 e cs nx) : H N w0 e cs (Exit.then nx Q .normal) := h
theorem H.then_exit {nx : Act → World → Prop} {id : Nat} (h : H N w0 e cs (Q (.exit id))) : H N w0 e cs (Exit.then nx Q (.exit id)) := h
theorem H.then_ret {nx : Act → World → Prop} (h : H N w0 e cs (Q .ret)) : H N w0 e cs (Exit.then nx Q .ret) := h
theorem H.blk_normal {id : Nat} (h : H N w0 e cs (Q .normal)) : H N w0 e cs (Exit.inBlock id Q .normal) := h
theorem H.blk_ret {id : Nat} (h : H N w0 e cs (Q .ret)) : H N w0 e cs (Exit.inBlock id Q .ret) := h
theorem H.blk_hit {id : Nat} (h : H N w0 e cs (Q .normal)) : H N w0 e cs (Exit.inBlock id Q (.exit id)) := by
  have he : Exit.inBlock id Q (.exit id) = Q .normal := by funext a w; simp [Exit.inBlock]
  rw [he]; exact h
theorem H.blk_miss {id id' : Nat} (hne : Nat.beq id' id = false) (h : H N w0 e cs (Q (.exit id'))) : H N w0 e cs (Exit.inBlock id Q (.exit id')) := by
  have : id' ≠ id := beq_false.1 hne
  have he : Exit.inBlock id Q (.exit id') = Q (.exit id') := by funext a w; simp [Exit.inBlock, this]
  rw [he]; exact h
/-- A loop: a family of states that every round keeps, and a measure. -/
def LoopI {X : Type} (N : Nat) (w0 : World) (E : X → Env) (C : X → List SProp) (φ : X → Prop) (μ : X → Nat) (m : Nat) (a : Act) (w : World) : Prop :=
  ∃ x, φ x ∧ EnvOK N (E x) a ∧ Own w0 w (C x) ∧ μ x < m
theorem H.loop {X : Type} {c : Code} (E : X → Env) (C : X → List SProp) (φ : X → Prop) (μ : X → Nat) (x0 : X) (h0 : φ x0) (hE : ESub (E x0) e) (hC : ∀ w, Own w0 w cs → Own w0 w (C x0))
    (round : ∀ x, φ x → H N w0 (E x) (C x) (c.wp P (Exit.then (LoopI N w0 E C φ μ (μ x)) Q))) : H N w0 e cs ((Code.loop c).wp P Q) := by
  intro a w he ho
  let Inv : Act → World → Prop := fun a w => ∃ x, φ x ∧ EnvOK N (E x) a ∧ Own w0 w (C x)
  have hex : ∀ a w, Inv a w → ∃ m x, φ x ∧ EnvOK N (E x) a ∧ Own w0 w (C x) ∧ μ x = m := fun a w ⟨x, h1, h2, h3⟩ => ⟨μ x, x, h1, h2, h3, rfl⟩
  -- the measure: the least that some state tells
  let ms : Act → World → Nat → Prop := fun a w m => ∃ x, φ x ∧ EnvOK N (E x) a ∧ Own w0 w (C x) ∧ μ x = m
  have least : ∀ (p : Nat → Prop), (∃ m, p m) → ∃ m, p m ∧ ∀ k, p k → m ≤ k := by
    intro p ⟨m, hm⟩
    induction m using Nat.strongRecOn with
    | _ m ih =>
      by_cases h : ∃ k, k < m ∧ p k
      · obtain ⟨k, hk, hp⟩ := h; exact ih k hk hp
      · exact ⟨m, hm, fun k hk => Nat.le_of_not_lt fun hlt => h ⟨k, hlt, hk⟩⟩
  classical
  let meas : Act → World → Nat := fun a w => if h : ∃ m, ms a w m then Classical.choose (least (ms a w) h) else 0
  have hmeas : ∀ a w, Inv a w → ∃ x, φ x ∧ EnvOK N (E x) a ∧ Own w0 w (C x) ∧ μ x = meas a w := by
    intro a w h
    have hx := hex a w h
    have h1 := (Classical.choose_spec (least (ms a w) hx)).1
    have : meas a w = Classical.choose (least (ms a w) hx) := dif_pos hx
    rw [this]; exact h1
  have hle : ∀ a w x, φ x → EnvOK N (E x) a → Own w0 w (C x) → meas a w ≤ μ x := by
    intro a w x h1 h2 h3
    have hx : ∃ m, ms a w m := ⟨μ x, x, h1, h2, h3, rfl⟩
    have h4 := (Classical.choose_spec (least (ms a w) hx)).2 (μ x) ⟨x, h1, h2, h3, rfl⟩
    have : meas a w = Classical.choose (least (ms a w) hx) := dif_pos hx
    rw [this]; exact h4
  refine wp_loop Inv meas ⟨x0, h0, he.sub hE.ok, hC w ho⟩ ?_
  intro a w hI
  obtain ⟨x, h1, h2, h3, h4⟩ := hmeas a w hI
  refine wp_mono (round x h1 a w h2 h3) ?_
  intro ex a' w' hq
  cases ex with
  | normal =>
    obtain ⟨y, g1, g2, g3, g4⟩ := hq
    exact ⟨⟨y, g1, g2, g3⟩, by have := hle a' w' y g1 g2 g3; omega⟩
  | _ => exact hq
theorem H.round {X : Type} {E : X → Env} {C : X → List SProp} {φ : X → Prop} {μ : X → Nat} {m : Nat} (x : X) (hφ : φ x) (hμ : μ x < m) (hE : ESub (E x) e) (hC : ∀ w, Own w0 w cs → Own w0 w (C x)) :
    H N w0 e cs (LoopI N w0 E C φ μ m) := fun a w he ho => ⟨x, hφ, he.sub hE.ok, hC w ho, hμ⟩
end

/-! ### Calls -/
/-- What a call does: for every world that owns cs, it returns some v and owns some cs', as R tells. -/
def Spec (P : Program) (w0 : World) (f : FuncId) (args : List Value) (cs : List SProp) (R : Value → List SProp → Prop) : Prop :=
  ∀ w, Own w0 w cs → Calls P f args.toArray w fun en w' => ∃ v cs', en = .returned v ∧ R v cs' ∧ Own w0 w' cs'
theorem Spec.mono {P : Program} {w0 : World} {f : FuncId} {args : List Value} {cs : List SProp} {R R' : Value → List SProp → Prop} (h : Spec P w0 f args cs R) (hr : ∀ v cs', R v cs' → R' v cs') : Spec P w0 f args cs R' :=
  fun w ho => (h w ho).mono fun en w' ⟨v, cs', h1, h2, h3⟩ => ⟨v, cs', h1, hr v cs' h2, h3⟩
theorem Spec.conv {P : Program} {w0 : World} {f : FuncId} {args : List Value} {cs cs' : List SProp} {R : Value → List SProp → Prop} (hc : ∀ w, Own w0 w cs → Own w0 w cs') (h : Spec P w0 f args cs' R) : Spec P w0 f args cs R :=
  fun w ho => h w (hc w ho)
/-- The end of a function: what it hands back lies in temporaries or in cells. -/
def Ends (P : Program) (w0 : World) (fn : Func) (R : Value → List SProp → Prop) : Exit → Act → World → Prop :=
  bodyPost P fn fun en w' => ∃ v cs', en = .returned v ∧ R v cs' ∧ Own w0 w' cs'
def args0 : Nat → List Value → Env
  | _, [] => []
  | i, v :: vs => (i, v) :: args0 (i + 1) vs
theorem lk_args0 : ∀ (vs : List Value) (i t : Nat) (v : Value), lk (args0 i vs) t = some v → i ≤ t ∧ vs[t - i]? = some v
  | [], i, t, v, h => by simp [args0, lk] at h
  | u :: us, i, t, v, h => by
    simp only [args0, lk] at h
    by_cases hit : i = t
    · subst hit; simp at h; simp [h]
    · have : Nat.beq i t = false := beq_false.2 hit
      rw [this] at h
      have := lk_args0 us (i + 1) t v h
      refine ⟨by omega, ?_⟩
      rw [show t - i = (t - (i + 1)) + 1 by omega]
      simpa using this.2
theorem Spec.of_body {P : Program} {w0 : World} {f : FuncId} {fn : Func} {c : Code} {N : Nat} {args : List Value} {cs : List SProp} {R : Value → List SProp → Prop} (hf : P.funcs[f]? = some fn) (hb : fn.body = some c) (hN : fn.ntmps = N) (hl : Nat.ble args.length N = true)
    (h : H N w0 (args0 0 args) cs (c.wp P (Ends P w0 fn R))) : Spec P w0 f args cs R := by
  intro w ho
  refine calls_of_wp hf hb (h _ w ⟨rfl, ?_, ?_⟩ ho)
  · have : args.length ≤ N := by simpa using hl
    simp [hN]; omega
  · intro t v ht
    have h1 := (lk_args0 args 0 t v ht).2
    simp only [Nat.sub_zero] at h1
    have h2 : t < args.length := (List.getElem?_eq_some_iff.1 h1).1
    have h3 : (args.toArray ++ Array.replicate (fn.ntmps - args.toArray.size) undef)[t]? = some v := by
      rw [Array.getElem?_append_left (by simpa using h2)]; simpa using h1
    rw [Array.getD_eq_getD_getElem?, h3]; rfl
end Go.Proofs.YtbglphpinhjfeaaGreatDoor
