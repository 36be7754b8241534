/- What each operation of the machine does, as a rule of the separation logic: reads and arithmetic (quiet), memory (effects). Nothing of the program is named here: types come in through a table. -/
import Derived.Test.YtbglphpinhjfeaaGreatDoorSep
import Derived.Laws.AppendOwn
import Derived.Laws.Strings
import Derived.Laws.Entries
import Derived.Lib.FrozenHead
import Derived.IntWalk
import Derived.Laws.IdiomStrings
import Derived.Laws.BytesString
namespace Go.Proofs.YtbglphpinhjfeaaGreatDoor
open Go Go.RowKit
set_option linter.unusedVariables false
set_option linter.unusedSimpArgs false

/-! ### Types -/
inductive TD where
  | bool | int (k : IntKind) | string | slice (e : Nat) | ptr (e : Nat) | map (k e : Nat) | struct (fs : List (Nat × Nat × Nat)) | array (n e : Nat) | iface | func | tuple | other
structure TI where
  d : TD
  size : Nat
  bytes : Nat
def TD.agg : TD → Bool
  | .struct _ | .array _ _ => true
  | _ => false
def tdOk : TD → TypeDesc → Bool
  | .bool, .bool => true
  | .int k, .int k' => decide (k = k')
  | .string, .string => true
  | .slice e, .slice e' => e == e'
  | .ptr e, .pointer e' => e == e'
  | .map k e, .map k' e' => k == k' && e == e'
  | .struct fs, .struct a => a.toList.map (fun f => (f.offset, f.type)) == fs.map (fun p => (p.1, p.2.1))
  | .array n e, .array n' e' => n == n' && e == e'
  | .iface, .interface _ => true
  | .func, .func _ _ _ => true
  | .tuple, .tuple _ => true
  | .other, .float _ | .other, .complex _ | .other, .unsafePointer | .other, .chan _ _ | .other, .invalid => true
  | _, _ => false
def tchk (P : Program) (t : Nat) (ti : TI) : Bool :=
  (match P.underlying t with | some d => tdOk ti.d d | none => false) &&
  (match P.info? t with | some i => i.size == ti.size && i.bytes == ti.bytes | none => false) &&
  (match ti.d with | .struct fs => fs.all fun p => (P.info? p.2.1).map (·.size) == some p.2.2 | _ => true)
structure TOk (P : Program) (t : Nat) (ti : TI) : Prop where
  ok : tchk P t ti = true
def tget : List (Nat × TI) → Nat → Option TI
  | [], _ => none
  | (t, i) :: l, k => bif Nat.beq t k then some i else tget l k
theorem tget_ok {P : Program} : ∀ {l : List (Nat × TI)}, (l.all fun p => tchk P p.1 p.2) = true → ∀ {t i}, tget l t = some i → TOk P t i
  | [], _, t, i, h => by simp [tget] at h
  | (t', i') :: l, hl, t, i, h => by
    simp only [List.all_cons, Bool.and_eq_true] at hl
    simp only [tget] at h
    by_cases ht : t' = t
    · subst ht; simp at h; subst h; exact ⟨hl.1⟩
    · rw [beq_false.2 ht] at h; exact tget_ok hl.2 h
section
variable {P : Program} {t : Nat} {sz by_ : Nat}
theorem TOk.und {ti : TI} (h : TOk P t ti) : ∃ d, P.underlying t = some d ∧ tdOk ti.d d = true := by
  have := h.ok
  unfold tchk at this
  simp only [Bool.and_eq_true] at this
  have h1 := this.1.1
  split at h1
  · exact ⟨_, ‹_›, h1⟩
  · cases h1
theorem TOk.inf {ti : TI} (h : TOk P t ti) : ∃ i, P.info? t = some i ∧ i.size = ti.size ∧ i.bytes = ti.bytes := by
  have := h.ok
  unfold tchk at this
  simp only [Bool.and_eq_true] at this
  have h1 := this.1.2
  split at h1
  · simp only [Bool.and_eq_true, beq_iff_eq] at h1
    exact ⟨_, ‹_›, h1⟩
  · cases h1
theorem TOk.fsz {fs : List (Nat × Nat × Nat)} (h : TOk P t ⟨.struct fs, sz, by_⟩) : ∀ p ∈ fs, (P.info? p.2.1).map (·.size) = some p.2.2 := by
  have := h.ok
  unfold tchk at this
  simp only [Bool.and_eq_true] at this
  have h1 := this.2
  intro p hp
  simpa using List.all_eq_true.1 h1 p hp
theorem TOk.slice {e : Nat} (h : TOk P t ⟨.slice e, sz, by_⟩) : P.underlying t = some (.slice e) := by
  obtain ⟨d, h1, h2⟩ := h.und
  cases d <;> simp [tdOk] at h2
  rw [h1, h2]
theorem TOk.string (h : TOk P t ⟨.string, sz, by_⟩) : P.underlying t = some .string := by
  obtain ⟨d, h1, h2⟩ := h.und
  cases d <;> simp [tdOk] at h2
  rw [h1]
theorem TOk.bool (h : TOk P t ⟨.bool, sz, by_⟩) : P.underlying t = some .bool := by
  obtain ⟨d, h1, h2⟩ := h.und
  cases d <;> simp [tdOk] at h2
  rw [h1]
theorem TOk.int {k : IntKind} (h : TOk P t ⟨.int k, sz, by_⟩) : P.underlying t = some (.int k) := by
  obtain ⟨d, h1, h2⟩ := h.und
  cases d <;> simp [tdOk] at h2
  rw [h1, h2]
theorem TOk.ptr {e : Nat} (h : TOk P t ⟨.ptr e, sz, by_⟩) : P.underlying t = some (.pointer e) := by
  obtain ⟨d, h1, h2⟩ := h.und
  cases d <;> simp [tdOk] at h2
  rw [h1, h2]
theorem TOk.map {k e : Nat} (h : TOk P t ⟨.map k e, sz, by_⟩) : P.underlying t = some (.map k e) := by
  obtain ⟨d, h1, h2⟩ := h.und
  cases d <;> simp [tdOk] at h2
  rw [h1, h2.1, h2.2]
theorem TOk.array {n e : Nat} (h : TOk P t ⟨.array n e, sz, by_⟩) : P.underlying t = some (.array n e) := by
  obtain ⟨d, h1, h2⟩ := h.und
  cases d <;> simp [tdOk] at h2
  rw [h1, h2.1, h2.2]
theorem TOk.iface (h : TOk P t ⟨.iface, sz, by_⟩) : ∃ ms, P.underlying t = some (.interface ms) := by
  obtain ⟨d, h1, h2⟩ := h.und
  cases d <;> simp [tdOk] at h2
  exact ⟨_, h1⟩
theorem TOk.struct {fs : List (Nat × Nat × Nat)} (h : TOk P t ⟨.struct fs, sz, by_⟩) :
    ∃ a, P.underlying t = some (.struct a) ∧ a.toList.map (fun f => (f.offset, f.type)) = fs.map (fun p => (p.1, p.2.1)) := by
  obtain ⟨d, h1, h2⟩ := h.und
  cases d <;> simp [tdOk] at h2
  exact ⟨_, h1, h2⟩
theorem run_isAgg {ti : TI} (h : TOk P t ti) (w : World) : (isAgg t).run P w = .ok ti.d.agg w := by
  obtain ⟨d, h1, h2⟩ := h.und
  unfold isAgg
  rw [Sem.run_bind, run_underlying h1, Result.andThen_ok]
  cases hd : ti.d <;> rw [hd] at h2 <;> cases d <;> simp [tdOk] at h2 <;> rfl
theorem run_sizeOf {ti : TI} (h : TOk P t ti) (w : World) : (sizeOf t).run P w = .ok ti.size w := by
  obtain ⟨i, h1, h2, h3⟩ := h.inf
  simp [sizeOf, typeInfo, h1, h2]
end
/-- The zero value's cells. -/
structure ZOk (P : Program) (t : Nat) (z : List Value) : Prop where
  ok : ∃ i v, P.info? t = some i ∧ i.zero = some v ∧ v.cells.toList = z ∧ i.size = z.length

/-! ### Values -/
abbrev str (l : List UInt8) : Value := .string ⟨⟨l⟩⟩
abbrev num (n : Int) : Value := .int .i64 n
abbrev u8v (b : UInt8) : Value := .int .u8 b.toNat
abbrev bol (b : Bool) : Value := .bool b
def sadr (A : Option Addr) (i : Nat) : Addr := match A with
  | some a => a.add i
  | none => default
def cutA (A : Option Addr) (cap lo : Nat) : Option Addr := if cap = lo then A else A.map (·.add lo)

/-- The slice value '.slice A n cap' reads as xs, its elements one cell each. -/
structure RdW (w : World) (A : Option Addr) (n c : Nat) (xs : List Value) : Prop where
  len : xs.length = n
  cap : n ≤ c
  max : c ≤ maxLen
  nil : A = none → c = 0
  cells : ∀ j x, xs[j]? = some x → w.cell? (sadr A j) = some x
def Reads (w0 : World) (cs : List SProp) (A : Option Addr) (n cap : Nat) (xs : List Value) : Prop := ∀ w, Own w0 w cs → RdW w A n cap xs
/-- A slice that owns its block, its elements one cell each. -/
def osl (et : TypeId) (A : Option Addr) (n cap : Nat) (xs : List Value) : SProp := fun F =>
  (xs.length = n ∧ n ≤ cap ∧ cap ≤ maxLen) ∧
  ((cap = 0 ∧ F = []) ∨
   ∃ (b off : Nat) (cur : List Value) (fz : Nat × Nat), A = some ⟨b, off, none⟩ ∧ off + cap ≤ cur.length ∧ Fz cur.length fz ∧ (cur.drop off).take n = xs ∧
     (∀ x ∈ xs, x.oneCell' = true) ∧ F = [(b, .cells cur.toArray et fz)])

theorem add_lit (b o j : Nat) : (⟨b, o, none⟩ : Addr).add j = ⟨b, o + j, none⟩ := by
  unfold Addr.add
  split
  · subst_vars; rfl
  · rfl
theorem sadr_lit (b o j : Nat) : sadr (some ⟨b, o, none⟩) j = ⟨b, o + j, none⟩ := add_lit b o j

section
variable {w0 : World} {cs : List SProp} {A : Option Addr} {n cap : Nat} {xs : List Value} {et : TypeId}
theorem Reads.tail {c : SProp} (h : Reads w0 cs A n cap xs) : Reads w0 (c :: cs) A n cap xs := fun w ho => h w ho.tail
theorem osl_reads (hm : osl et A n cap xs ∈ cs) : Reads w0 cs A n cap xs := by
  intro w ho
  obtain ⟨F, ⟨⟨h1, h2, h3⟩, h⟩, _, hw⟩ := ho.mem hm
  rcases h with ⟨rfl, rfl⟩ | ⟨b, off, cur, fz, rfl, hcap, hfz, htake, hone, rfl⟩
  · refine ⟨h1, h2, h3, fun _ => rfl, fun j x hx => ?_⟩
    have := (List.getElem?_eq_some_iff.1 hx).1
    omega
  · refine ⟨h1, h2, h3, fun h => (by cases h), fun j x hx => ?_⟩
    have hb := (hw _ (List.mem_singleton_self _)).2
    rw [sadr_lit]
    have hj := (List.getElem?_eq_some_iff.1 hx).1
    rw [← htake, List.getElem?_take_of_lt (by omega), List.getElem?_drop] at hx
    simp [World.cell?, hb, hx]
theorem Reads.of_head {cs' : List SProp} : Reads w0 (osl et A n cap xs :: cs') A n cap xs := osl_reads (.head _)
theorem Own.len {w : World} (hr : Reads w0 cs A n cap xs) (h : Own w0 w cs) : xs.length = n ∧ n ≤ cap ∧ cap ≤ 9223372036854775807 := ⟨(hr w h).len, (hr w h).cap, (hr w h).max⟩
theorem RdW.facts {w : World} (h : RdW w A n cap xs) : xs.length = n ∧ n ≤ cap ∧ cap ≤ 9223372036854775807 ∧ (A = none → cap = 0) := ⟨h.len, h.cap, h.max, h.nil⟩
theorem Reads.cut {lo hi : Nat} (h : Reads w0 cs A n cap xs) (h1 : lo ≤ hi) (h2 : hi ≤ n) : Reads w0 cs (cutA A cap lo) (hi - lo) (cap - lo) ((xs.drop lo).take (hi - lo)) := by
  intro w ho
  obtain ⟨a1, a2, a3, a4, a5⟩ := h w ho
  refine ⟨by simp [a1]; omega, by omega, by omega, ?_, ?_⟩
  · unfold cutA
    split
    · intro _; omega
    · intro hn
      have : A = none := by cases A <;> simp at hn ⊢
      have := a4 this; omega
  · intro j x hx
    have hj := (List.getElem?_eq_some_iff.1 hx).1
    simp at hj
    rw [List.getElem?_take_of_lt (by omega), List.getElem?_drop] at hx
    have := a5 _ x hx
    unfold cutA
    rw [if_neg (by omega)]
    cases A with
    | none => have := a4 rfl; omega
    | some a =>
      simp only [sadr, Option.map_some] at this ⊢
      have e : (a.add lo).add j = a.add (lo + j) := by
        unfold Addr.add
        by_cases l0 : lo = 0 <;> by_cases j0 : j = 0 <;> simp [l0, j0, Nat.add_assoc]
      rw [e]; exact this
theorem Own.cut {w : World} {lo hi : Nat} (h1 : lo ≤ hi) (h2 : hi ≤ n) (h : Own w0 w (osl et A n cap xs :: cs)) : Own w0 w (osl et (cutA A cap lo) (hi - lo) (cap - lo) ((xs.drop lo).take (hi - lo)) :: cs) := by
  obtain ⟨hb, F, ⟨F1, F2, rfl, ⟨⟨g1, g2, g3⟩, hc⟩, hs⟩, hn, hw⟩ := h
  have hlen : ((xs.drop lo).take (hi - lo)).length = hi - lo := by simp [g1]; omega
  rcases hc with ⟨rfl, rfl⟩ | ⟨b, off, cur, fz, rfl, hcap, hfz, htake, hone, rfl⟩
  · exact ⟨hb, _, ⟨[], F2, rfl, ⟨⟨hlen, by omega, by omega⟩, .inl ⟨by omega, rfl⟩⟩, hs⟩, hn, hw⟩
  · refine ⟨hb, _, ⟨_, F2, rfl, ⟨⟨hlen, by omega, by omega⟩, .inr ?_⟩, hs⟩, hn, hw⟩
    by_cases hcl : cap = lo
    · have : hi = lo := by omega
      subst this
      exact ⟨b, off, cur, fz, by simp [cutA, hcl], by omega, hfz, by simp, by simp, rfl⟩
    · refine ⟨b, off + lo, cur, fz, by simp [cutA, hcl, add_lit], by omega, hfz, ?_, ?_, rfl⟩
      · rw [← htake, List.drop_take, List.take_take, List.drop_drop]
        congr 1
        omega
      · intro x hx
        exact hone x (List.mem_of_mem_drop (List.mem_of_mem_take hx))
theorem Own.zero_osl {w : World} (et : TypeId) (A : Option Addr) (h : Own w0 w cs) : Own w0 w (osl et A 0 0 [] :: cs) := by
  obtain ⟨hb, F, hs, hn, hw⟩ := h
  exact ⟨hb, F, ⟨[], F, rfl, ⟨⟨rfl, Nat.le_refl _, by simp [maxLen]⟩, .inl ⟨rfl, rfl⟩⟩, hs⟩, hn, hw⟩
theorem Own.nil_osl {w : World} (et : TypeId) (h : Own w0 w cs) : Own w0 w (osl et none 0 0 [] :: cs) := h.zero_osl et none
end

/-! ### Quiet operations -/
section
variable {P : Program} {N : Nat} {w0 : World} {e : Env} {cs : List SProp} {ty : TypeId}
theorem Qt.move {x : Operand} {v : Value} (hx : evE e x = some v) : Qt P N w0 e cs (.move x) ty v := by
  intro a w he ho o' h1 h2
  simp [execOp, h1, he.ev hx]
theorem Qt.assign {x : Operand} {v : Value} (hx : evE e x = some v) : Qt P N w0 e cs (.assign x) ty v := by
  intro a w he ho o' h1 h2
  simp [execOp, h1, he.ev hx]
theorem Qt.pick {c x y : Operand} {t : Bool} {u v : Value} (hc : evE e c = some (.bool t)) (hx : evE e x = some u) (hy : evE e y = some v) : Qt P N w0 e cs (.pick c x y) ty (if t then u else v) := by
  intro a w he ho o' h1 h2
  simp [execOp, h1, he.ev hc, he.ev hx, he.ev hy, asBool]
/-- Both arms are booleans: the pick is one, too. -/
theorem Qt.pick_or {c x : Operand} {t s : Bool} (hc : evE e c = some (.bool t)) (hx : evE e x = some (.bool s)) : Qt P N w0 e cs (.pick c (.const (.bool true)) x) ty (.bool (t || s)) := by
  have := Qt.pick (P := P) (N := N) (w0 := w0) (cs := cs) (ty := ty) hc (show evE e (.const (.bool true)) = some (.bool true) from rfl) hx
  cases t <;> exact this
theorem Qt.pick_and {c x : Operand} {t s : Bool} (hc : evE e c = some (.bool t)) (hx : evE e x = some (.bool s)) : Qt P N w0 e cs (.pick c x (.const (.bool false))) ty (.bool (t && s)) := by
  have := Qt.pick (P := P) (N := N) (w0 := w0) (cs := cs) (ty := ty) hc hx (show evE e (.const (.bool false)) = some (.bool false) from rfl)
  cases t <;> exact this
theorem Qt.pick_t {c x y : Operand} {t : Bool} {u : Value} (hc : evE e c = some (.bool t)) (hx : evE e x = some u) (ht : t = true) : Qt P N w0 e cs (.pick c x y) ty u := by
  intro a w he ho o' h1 h2
  subst ht
  simp [execOp, h1, he.ev hc, he.ev hx, asBool]
theorem Qt.pick_f {c x y : Operand} {t : Bool} {u : Value} (hc : evE e c = some (.bool t)) (hx : evE e y = some u) (ht : t = false) : Qt P N w0 e cs (.pick c x y) ty u := by
  intro a w he ho o' h1 h2
  subst ht
  simp [execOp, h1, he.ev hc, he.ev hx, asBool]
theorem Qt.nilCheck {x : Operand} {p : Addr} (hx : evE e x = some (.pointer (some p))) : Qt P N w0 e cs (.nilCheck x) ty (.pointer (some p)) := by
  intro a w he ho o' h1 h2
  simp [execOp, h1, he.ev hx]
theorem Qt.nilCheck_fn {x : Operand} {f : FuncId} {p q : Array Value} (hx : evE e x = some (.func (.func f) p q)) : Qt P N w0 e cs (.nilCheck x) ty (.func (.func f) p q) := by
  intro a w he ho o' h1 h2
  simp [execOp, h1, he.ev hx]
theorem run_fieldPlace {t : Nat} {fs : List (Nat × Nat × Nat)} {sz by_ : Nat} (hT : TOk P t ⟨.struct fs, sz, by_⟩) {f off ft fsz : Nat} (hf : fs[f]? = some (off, ft, fsz + 1)) (b : Addr) (w : World) :
    (Instr.fieldAt t (.pointer (some b)) f).run P w = .ok (.pointer (some (b.add off))) w := by
  obtain ⟨a, ha, hm⟩ := hT.struct
  have h0 : (a.toList.map (fun f => (f.offset, f.type)))[f]? = some (off, ft) := by rw [hm, List.getElem?_map, hf]; rfl
  rw [List.getElem?_map] at h0
  cases hg : a[f]? with
  | none => simp [hg] at h0
  | some fd =>
    simp only [Array.getElem?_toList, hg, Option.map_some, Option.some.injEq, Prod.mk.injEq] at h0
    have hs := hT.fsz _ (List.mem_of_getElem? hf)
    simp only at hs
    cases hi : P.info? ft with
    | none => simp [hi] at hs
    | some i =>
      simp only [hi, Option.map_some, Option.some.injEq] at hs
      simp [Instr.fieldAt, run_underlying ha, hg, Instr.sureAddr, fieldPlace, sizeOf, typeInfo, h0.2, hi, hs, h0.1]
theorem Qt.fieldAddr {x : Operand} {t f off ft fsz sz by_ b o : Nat} {fs : List (Nat × Nat × Nat)} (hx : evE e x = some (.pointer (some ⟨b, o, none⟩))) (hT : TOk P t ⟨.struct fs, sz, by_⟩) (hf : fs[f]? = some (off, ft, fsz + 1)) :
    Qt P N w0 e cs (.fieldAddr t x f) ty (.pointer (some ⟨b, o + off, none⟩)) := by
  intro a w he ho o' h1 h2
  simp only [execOp, h1, he.ev hx]
  simp [run_fieldPlace hT hf, add_lit]
theorem run_loadVar_one {t : Nat} {ti : TI} (hT : TOk P t ti) (hg : ti.d.agg = false) {p : Addr} {v : Value} {w : World} (hc : w.cell? p = some v) : (loadVar t p).run P w = .ok v w := by
  simp [loadVar, run_isAgg hT, hg, hc]
theorem run_loadVar_agg {t : Nat} {ti : TI} (hT : TOk P t ti) (hg : ti.d.agg = true) {p : Addr} {vs : List Value} {w : World} (hl : vs.length = ti.size) (hc : ∀ j v, vs[j]? = some v → w.cell? (p.add j) = some v) : (loadVar t p).run P w = .ok (.agg vs.toArray) w := by
  have := run_loadCells_list (P := P) w p vs hc
  rw [hl] at this
  simp [loadVar, run_isAgg hT, hg, run_sizeOf hT, this]
/-- A field, or a variable, of one cell, in a block that is known. -/
theorem Qt.load {x : Operand} {t b o : Nat} {ti : TI} {cur : List Value} {bt : TypeId} {v : Value} (hx : evE e x = some (.pointer (some ⟨b, o, none⟩))) (hT : TOk P t ti) (hg : ti.d.agg = false) (hm : blk b cur bt ∈ cs) (hv : cur[o]? = some v) :
    Qt P N w0 e cs (.load t x) ty v := by
  intro a w he ho o' h1 h2
  simp only [execOp, h1, he.ev hx]
  simp [Instr.loadAt, Instr.sureAddr, run_loadVar_one hT hg ((ho.blk_cell hm o).trans hv)]
theorem Qt.load_agg {x : Operand} {t b o : Nat} {ti : TI} {cur : List Value} {bt : TypeId} {vs : List Value} (hx : evE e x = some (.pointer (some ⟨b, o, none⟩))) (hT : TOk P t ti) (hg : ti.d.agg = true) (hm : blk b cur bt ∈ cs) (hv : (cur.drop o).take ti.size = vs) (hl : vs.length = ti.size) :
    Qt P N w0 e cs (.load t x) ty (.agg vs.toArray) := by
  intro a w he ho o' h1 h2
  simp only [execOp, h1, he.ev hx]
  have : ∀ j v, vs[j]? = some v → w.cell? ((⟨b, o, none⟩ : Addr).add j) = some v := by
    intro j v hj
    have hlt := (List.getElem?_eq_some_iff.1 hj).1
    rw [add_lit, ho.blk_cell hm]
    rw [← hv, List.getElem?_take_of_lt (by omega), List.getElem?_drop] at hj
    exact hj
  simp [Instr.loadAt, Instr.sureAddr, run_loadVar_agg hT hg hl this]
theorem Qt.indexAddr {x y : Operand} {t el n cap sz by_ : Nat} {ei : TI} {A : Option Addr} {xs : List Value} {i : Int} (hx : evE e x = some (.slice A n cap)) (hy : evE e y = some (.int .i64 i)) (hT : TOk P t ⟨.slice el, sz, by_⟩) (hE : TOk P el ei) (h1 : ei.size = 1)
    (hr : Reads w0 cs A n cap xs) (h0 : 0 ≤ i) (hi : i < n) : Qt P N w0 e cs (.indexAddr t x y) ty (.pointer (some (sadr A i.toNat))) := by
  intro a w he ho o' g1 g2
  simp only [execOp, g1, he.ev hx, he.ev hy]
  have hw := hr w ho
  cases A with
  | none => have := hw.nil rfl; have := hw.cap; omega
  | some ad =>
    simp [Instr.indexAt, asIntOf, run_underlying hT.slice, run_sizeOf hE, h0, hi, h1, sadr]
theorem Qt.load_el {x : Operand} {t i n cap : Nat} {ti : TI} {A : Option Addr} {xs : List Value} {v : Value} (hx : evE e x = some (.pointer (some (sadr A i)))) (hT : TOk P t ti) (hg : ti.d.agg = false) (hr : Reads w0 cs A n cap xs) (hv : xs[i]? = some v) :
    Qt P N w0 e cs (.load t x) ty v := by
  intro a w he ho o' h1 h2
  simp only [execOp, h1, he.ev hx]
  have hc := (hr w ho).cells i v hv
  simp [Instr.loadAt, Instr.sureAddr, run_loadVar_one hT hg hc]
theorem getD_map {α : Type} (f : α → Value) (l : List α) (d : α) {i : Nat} (h : i < l.length) : (l.map f)[i]? = some (f (l.getD i d)) := by
  rw [List.getElem?_map, List.getD_eq_getElem?_getD, List.getElem?_eq_getElem h]; rfl
theorem Qt.load_map {α : Type} {f : α → Value} {l : List α} (d : α) {x : Operand} {t n cap : Nat} {i : Int} {ti : TI} {A : Option Addr} (hx : evE e x = some (.pointer (some (sadr A i.toNat)))) (hT : TOk P t ti) (hg : ti.d.agg = false) (hr : Reads w0 cs A n cap (l.map f)) (hi : i.toNat < l.length) :
    Qt P N w0 e cs (.load t x) ty (f (l.getD i.toNat d)) := Qt.load_el hx hT hg hr (getD_map f l d hi)
theorem Qt.extract {x : Operand} {i : Nat} {vs : Array Value} {v : Value} (hx : evE e x = some (.tuple vs)) (hv : vs[i]? = some v) : Qt P N w0 e cs (.extract x i) ty v := by
  intro a w he ho o' h1 h2
  simp only [execOp, h1, he.ev hx]
  simp [Instr.extract, hv]
theorem Qt.not {x : Operand} {t : TypeId} {b : Bool} (hx : evE e x = some (.bool b)) : Qt P N w0 e cs (.unOp .not t x) ty (.bool (!b)) := by
  intro a w he ho o' h1 h2
  simp only [execOp, h1, he.ev hx]
  simp [Op.unary]
theorem Qt.len_sl {x : Operand} {t el n cap sz by_ : Nat} {A : Option Addr} {ats : Array TypeId} (hx : evE e x = some (.slice A n cap)) (hT : TOk P t ⟨.slice el, sz, by_⟩) : Qt P N w0 e cs (.call ⟨.builtin .len, #[x], #[t]⟩) ty (.int .i64 n) := by
  intro a w he ho o' h1 h2
  simp only [execOp, h1]
  simp [resolve, invoke, builtin, he.ev hx, Builtin.len_, run_underlying hT.slice, goInt]
theorem Qt.len_str {x : Operand} {t sz by_ : Nat} {l : List UInt8} (hx : evE e x = some (str l)) (hT : TOk P t ⟨.string, sz, by_⟩) : Qt P N w0 e cs (.call ⟨.builtin .len, #[x], #[t]⟩) ty (.int .i64 l.length) := by
  intro a w he ho o' h1 h2
  simp only [execOp, h1]
  simp [resolve, invoke, builtin, he.ev hx, Builtin.len_, run_underlying hT.string, goInt]
  rfl

/-! ### Integers -/
theorem wrap_i64 {n : Int} (h0 : -9223372036854775808 ≤ n) (h1 : n ≤ 9223372036854775807) : IntKind.i64.wrap n = n := by
  show (if (true && decide (n % 18446744073709551616 ≥ 9223372036854775808)) = true then n % 18446744073709551616 - 18446744073709551616 else n % 18446744073709551616) = n
  simp only [Bool.true_and, decide_eq_true_eq]
  split <;> omega
theorem Qt.add {x y : Operand} {t t' : TypeId} {k : IntKind} {i j : Int} (hx : evE e x = some (.int k i)) (hy : evE e y = some (.int k j)) : Qt P N w0 e cs (.binOp .add t x y t') ty (.int k (k.wrap (i + j))) := by
  intro a w he ho o' h1 h2
  simp only [execOp, h1, he.ev hx, he.ev hy]
  simp [eqGuard, binOp, Op.intArith]
theorem Qt.sub {x y : Operand} {t t' : TypeId} {k : IntKind} {i j : Int} (hx : evE e x = some (.int k i)) (hy : evE e y = some (.int k j)) : Qt P N w0 e cs (.binOp .sub t x y t') ty (.int k (k.wrap (i - j))) := by
  intro a w he ho o' h1 h2
  simp only [execOp, h1, he.ev hx, he.ev hy]
  simp [eqGuard, binOp, Op.intArith]
theorem Qt.mul {x y : Operand} {t t' : TypeId} {k : IntKind} {i j : Int} (hx : evE e x = some (.int k i)) (hy : evE e y = some (.int k j)) : Qt P N w0 e cs (.binOp .mul t x y t') ty (.int k (k.wrap (i * j))) := by
  intro a w he ho o' h1 h2
  simp only [execOp, h1, he.ev hx, he.ev hy]
  simp [eqGuard, binOp, Op.intArith]
theorem Qt.add64 {x y : Operand} {t t' : TypeId} {i j : Int} (hx : evE e x = some (.int .i64 i)) (hy : evE e y = some (.int .i64 j)) (h0 : -9223372036854775808 ≤ i + j) (h1 : i + j ≤ 9223372036854775807) : Qt P N w0 e cs (.binOp .add t x y t') ty (.int .i64 (i + j)) := by
  have := Qt.add (P := P) (N := N) (w0 := w0) (cs := cs) (ty := ty) (t := t) (t' := t') hx hy
  rwa [wrap_i64 h0 h1] at this
theorem Qt.sub64 {x y : Operand} {t t' : TypeId} {i j : Int} (hx : evE e x = some (.int .i64 i)) (hy : evE e y = some (.int .i64 j)) (h0 : -9223372036854775808 ≤ i - j) (h1 : i - j ≤ 9223372036854775807) : Qt P N w0 e cs (.binOp .sub t x y t') ty (.int .i64 (i - j)) := by
  have := Qt.sub (P := P) (N := N) (w0 := w0) (cs := cs) (ty := ty) (t := t) (t' := t') hx hy
  rwa [wrap_i64 h0 h1] at this
theorem Qt.mul64 {x y : Operand} {t t' : TypeId} {i j : Int} (hx : evE e x = some (.int .i64 i)) (hy : evE e y = some (.int .i64 j)) (h0 : -9223372036854775808 ≤ i * j) (h1 : i * j ≤ 9223372036854775807) : Qt P N w0 e cs (.binOp .mul t x y t') ty (.int .i64 (i * j)) := by
  have := Qt.mul (P := P) (N := N) (w0 := w0) (cs := cs) (ty := ty) (t := t) (t' := t') hx hy
  rwa [wrap_i64 h0 h1] at this
theorem Qt.eql {x y : Operand} {t t' : TypeId} {k : IntKind} {i j : Int} (hx : evE e x = some (.int k i)) (hy : evE e y = some (.int k j)) : Qt P N w0 e cs (.binOp .eql t x y t') ty (.bool (i == j)) := by
  intro a w he ho o' h1 h2
  simp only [execOp, h1, he.ev hx, he.ev hy]
  simp [eqGuard, binOp, Op.intCmp]
theorem Qt.neq {x y : Operand} {t t' : TypeId} {k : IntKind} {i j : Int} (hx : evE e x = some (.int k i)) (hy : evE e y = some (.int k j)) : Qt P N w0 e cs (.binOp .neq t x y t') ty (.bool (i != j)) := by
  intro a w he ho o' h1 h2
  simp only [execOp, h1, he.ev hx, he.ev hy]
  simp [eqGuard, binOp, Op.intCmp]
theorem Qt.lss {x y : Operand} {t t' : TypeId} {k : IntKind} {i j : Int} (hx : evE e x = some (.int k i)) (hy : evE e y = some (.int k j)) : Qt P N w0 e cs (.binOp .lss t x y t') ty (.bool (decide (i < j))) := by
  intro a w he ho o' h1 h2
  simp only [execOp, h1, he.ev hx, he.ev hy]
  simp [eqGuard, binOp, Op.intCmp]
theorem Qt.leq {x y : Operand} {t t' : TypeId} {k : IntKind} {i j : Int} (hx : evE e x = some (.int k i)) (hy : evE e y = some (.int k j)) : Qt P N w0 e cs (.binOp .leq t x y t') ty (.bool (decide (i ≤ j))) := by
  intro a w he ho o' h1 h2
  simp only [execOp, h1, he.ev hx, he.ev hy]
  simp [eqGuard, binOp, Op.intCmp]
theorem Qt.gtr {x y : Operand} {t t' : TypeId} {k : IntKind} {i j : Int} (hx : evE e x = some (.int k i)) (hy : evE e y = some (.int k j)) : Qt P N w0 e cs (.binOp .gtr t x y t') ty (.bool (decide (j < i))) := by
  intro a w he ho o' h1 h2
  simp only [execOp, h1, he.ev hx, he.ev hy]
  simp [eqGuard, binOp, Op.intCmp]
theorem Qt.geq {x y : Operand} {t t' : TypeId} {k : IntKind} {i j : Int} (hx : evE e x = some (.int k i)) (hy : evE e y = some (.int k j)) : Qt P N w0 e cs (.binOp .geq t x y t') ty (.bool (decide (j ≤ i))) := by
  intro a w he ho o' h1 h2
  simp only [execOp, h1, he.ev hx, he.ev hy]
  simp [eqGuard, binOp, Op.intCmp]
theorem Qt.conv_int {x : Operand} {s d sz by_ : Nat} {si : TI} {k k' : IntKind} {i : Int} (hx : evE e x = some (.int k i)) (hS : TOk P s si) (hD : TOk P d ⟨.int k', sz, by_⟩) : Qt P N w0 e cs (.convert s d x) ty (.int k' (k'.wrap i)) := by
  intro a w he ho o' h1 h2
  obtain ⟨u, hu, _⟩ := hS.und
  simp only [execOp, h1, he.ev hx]
  simp [convert, run_underlying hu, run_underlying hD.int, Conv.intToInt]

theorem Qt.makeFunc {f : FuncId} {fs cps : List Operand} {us vs : List Value} (hf : evL e fs = some us) (hc : evL e cps = some vs) : Qt P N w0 e cs (.makeFunc (.func f) fs.toArray cps.toArray) ty (.func (.func f) us.toArray vs.toArray) := by
  intro a w he ho o' h1 h2
  simp only [execOp, h1]
  have e1 := he.evs hf
  have e2 := he.evs hc
  simp [Instr.makeFunc, e1, e2]

/-! ### Strings -/
theorem toList_mk (l : List UInt8) : (⟨⟨l⟩⟩ : ByteArray).toList = l := ByteArray.toList_eq _
theorem cat_mk (s r : List UInt8) : (⟨⟨s⟩⟩ : ByteArray) ++ ⟨⟨r⟩⟩ = ⟨⟨s ++ r⟩⟩ := by
  apply ByteArray.ext
  rw [ByteArray.data_append]
  simp
theorem Qt.cat {x y : Operand} {t t' : TypeId} {s r : List UInt8} (hx : evE e x = some (str s)) (hy : evE e y = some (str r)) (hl : s.length + r.length ≤ 9223372036854775807) : Qt P N w0 e cs (.binOp .add t x y t') ty (str (s ++ r)) := by
  intro a w he ho o' h1 h2
  simp only [execOp, h1, he.ev hx, he.ev hy]
  have : ¬ (9223372036854775807 < ((s.length : Int) + r.length)) := by omega
  simp [eqGuard, binOp, Op.stringOp, ByteArray.size, this]
  rw [cat_mk]
theorem Qt.seq {x y : Operand} {t t' : TypeId} {s r : List UInt8} (hx : evE e x = some (str s)) (hy : evE e y = some (str r)) : Qt P N w0 e cs (.binOp .eql t x y t') ty (.bool (s == r)) := by
  intro a w he ho o' h1 h2
  simp only [execOp, h1, he.ev hx, he.ev hy]
  simp [eqGuard, binOp, Op.stringOp, toList_mk]
theorem Qt.sne {x y : Operand} {t t' : TypeId} {s r : List UInt8} (hx : evE e x = some (str s)) (hy : evE e y = some (str r)) : Qt P N w0 e cs (.binOp .neq t x y t') ty (.bool (!(s == r))) := by
  intro a w he ho o' h1 h2
  simp only [execOp, h1, he.ev hx, he.ev hy]
  simp [eqGuard, binOp, Op.stringOp, toList_mk]
theorem Qt.sidx {x y : Operand} {t sz by_ : Nat} {s : List UInt8} {i : Int} (hx : evE e x = some (str s)) (hy : evE e y = some (.int .i64 i)) (hT : TOk P t ⟨.string, sz, by_⟩) (h0 : 0 ≤ i) (h1 : i < s.length) : Qt P N w0 e cs (.index t x y) ty (u8v (s.getD i.toNat 0)) := by
  intro a w he ho o' g1 g2
  simp only [execOp, g1, he.ev hx, he.ev hy]
  have hlt : i.toNat < s.length := by omega
  have : (⟨⟨s⟩⟩ : ByteArray)[i.toNat]? = some (s.getD i.toNat 0) := by
    show (if h : i.toNat < (⟨⟨s⟩⟩ : ByteArray).size then some _ else none) = _
    rw [dif_pos (show i.toNat < (⟨⟨s⟩⟩ : ByteArray).size from hlt)]
    simp [List.getD_eq_getElem?_getD, List.getElem?_eq_getElem hlt]
    rfl
  simp [Instr.index, asIntOf, run_underlying hT.string, h0, this]
theorem str_extract (s : List UInt8) (lo hi : Nat) : (⟨⟨s⟩⟩ : ByteArray).extract lo hi = ⟨⟨(s.drop lo).take (hi - lo)⟩⟩ := by
  apply ByteArray.ext
  rw [ByteArray.data_extract]
  simp [List.extract_eq_take_drop]
theorem run_sliceBound {v : Int} {y : Nat} {c : BoundsCode} (h0 : 0 ≤ v) (h1 : v ≤ y) (w : World) : (Instr.sliceBound (.int .i64 v) y c).run P w = .ok v.toNat w := by
  simp [Instr.sliceBound, asIntOf, h0, h1]
/-- A bound that is given, or left out. -/
def boundE (e : Env) : Option Operand → Int → Option Int
  | none, d => some d
  | some x, _ => match evE e x with
    | some (.int .i64 i) => some i
    | _ => none
theorem boundE_some {x : Operand} {d i : Int} (h : boundE e (some x) d = some i) : evE e x = some (.int .i64 i) := by
  simp only [boundE] at h
  split at h
  · injection h with h; subst h; assumption
  · cases h
theorem run_sliceBounds {isS : Bool} {len cap : Nat} {lo hi : Option Operand} {l h : Int} {a : Act} (he : EnvOK N e a) (hlo : boundE e lo 0 = some l) (hhi : boundE e hi len = some h) (hlen : len ≤ cap) (h0 : 0 ≤ l) (h1 : l ≤ h) (h2 : h ≤ cap) (w : World) :
    (Instr.sliceBounds isS len cap (lo.map a.eval) (hi.map a.eval) none).run P w = .ok (l.toNat, h.toNat, cap) w := by
  unfold Instr.sliceBounds
  cases hi with
  | none =>
    simp [boundE] at hhi
    subst hhi
    cases lo with
    | none =>
      simp [boundE] at hlo
      subst hlo
      simp
    | some x =>
      have e1 := he.ev (boundE_some hlo)
      simp [e1, run_sliceBound h0 h1]
  | some y =>
    have e2 := he.ev (boundE_some hhi)
    have h3 := run_sliceBound (P := P) (c := if isS then .sliceAcap else .sliceAlen) (show 0 ≤ h by omega) h2
    cases lo with
    | none =>
      simp [boundE] at hlo
      subst hlo
      simp [e2, h3]
    | some x =>
      have e1 := he.ev (boundE_some hlo)
      have h4 := run_sliceBound (P := P) (y := h.toNat) (c := .sliceB) h0 (show l ≤ (h.toNat : Int) by omega)
      simp [e1, e2, h3, h4]
theorem Qt.sslice {x : Operand} {t sz by_ : Nat} {lo hi : Option Operand} {l h : Int} {s : List UInt8} (hx : evE e x = some (str s)) (hT : TOk P t ⟨.string, sz, by_⟩) (hlo : boundE e lo 0 = some l) (hhi : boundE e hi s.length = some h) (h0 : 0 ≤ l) (h1 : l ≤ h) (h2 : h ≤ s.length) :
    Qt P N w0 e cs (.slice t x lo hi none) ty (str ((s.drop l.toNat).take (h.toNat - l.toNat))) := by
  intro a w he ho o' g1 g2
  have hb := run_sliceBounds (P := P) (isS := false) (cap := s.length) he hlo hhi (Nat.le_refl _) h0 h1 h2 w
  have hs : (⟨⟨s⟩⟩ : ByteArray).size = s.length := rfl
  simp only [execOp, g1, he.ev hx]
  simp [Instr.sliceAt, Instr.slice, run_underlying hT.string, hs, hb, str_extract]
theorem Qt.slice {x : Operand} {t el n cap sz by_ : Nat} {ei : TI} {lo hi : Option Operand} {l h : Int} {A : Option Addr} (hx : evE e x = some (.slice A n cap)) (hT : TOk P t ⟨.slice el, sz, by_⟩) (hE : TOk P el ei) (hs : ei.size = 1) (hlo : boundE e lo 0 = some l) (hhi : boundE e hi n = some h) (hnc : n ≤ cap) (h0 : 0 ≤ l) (h1 : l ≤ h) (h2 : h ≤ cap) :
    Qt P N w0 e cs (.slice t x lo hi none) ty (.slice (cutA A cap l.toNat) (h.toNat - l.toNat) (cap - l.toNat)) := by
  intro a w he ho o' g1 g2
  have hb := run_sliceBounds (P := P) (isS := true) (cap := cap) he hlo hhi hnc h0 h1 h2 w
  simp only [execOp, g1, he.ev hx]
  simp [Instr.sliceAt, Instr.slice, run_underlying hT.slice, run_sizeOf hE, hs, hb, cutA]

theorem Qt.slice3 {x mx : Operand} {t el n cap sz by_ : Nat} {ei : TI} {lo : Option Operand} {hi : Operand} {l h m : Int} {A : Option Addr} (hx : evE e x = some (.slice A n cap)) (hT : TOk P t ⟨.slice el, sz, by_⟩) (hE : TOk P el ei) (hs : ei.size = 1) (hlo : boundE e lo 0 = some l) (hhi : evE e hi = some (.int .i64 h)) (hmx : evE e mx = some (.int .i64 m)) (h0 : 0 ≤ l) (h1 : l ≤ h) (h2 : h ≤ m) (h3 : m ≤ cap) :
    Qt P N w0 e cs (.slice t x lo (some hi) (some mx)) ty (.slice (cutA A m.toNat l.toNat) (h.toNat - l.toNat) (m.toNat - l.toNat)) := by
  intro a w he ho o' g1 g2
  have b1 := run_sliceBound (P := P) (y := cap) (c := .slice3Acap) (show 0 ≤ m by omega) h3
  have b2 := run_sliceBound (P := P) (y := m.toNat) (c := .slice3B) (show 0 ≤ h by omega) (show h ≤ (m.toNat : Int) by omega)
  have hb : (Instr.sliceBounds true n cap (lo.map a.eval) (some (.int .i64 h)) (some (.int .i64 m))).run P w = .ok (l.toNat, h.toNat, m.toNat) w := by
    unfold Instr.sliceBounds
    cases lo with
    | none =>
      simp [boundE] at hlo
      subst hlo
      simp [b1, b2]
    | some z =>
      have e1 := he.ev (boundE_some hlo)
      have b3 := run_sliceBound (P := P) (y := h.toNat) (c := .slice3C) h0 (show l ≤ (h.toNat : Int) by omega)
      simp [b1, b2, e1, b3]
  simp only [execOp, g1, he.ev hx]
  simp [Instr.sliceAt, Instr.slice, run_underlying hT.slice, run_sizeOf hE, hs, he.ev hhi, he.ev hmx, hb, cutA]

/-! ### Comparisons with nil, booleans -/
theorem run_eq_ptr {t el : Nat} (h : P.underlying t = some (.pointer el)) (p : Option Addr) (w : World) : (Op.equal t (.pointer p) (.pointer none)).run P w = .ok p.isNone w := by
  show (Op.equalIn (9999 + 1) t (.pointer p) (.pointer none)).run P w = .ok p.isNone w
  unfold Op.equalIn
  rw [Sem.run_bind, run_underlying h, Result.andThen_ok]
  cases p <;> rfl
theorem run_eq_sl {t el : Nat} (h : P.underlying t = some (.slice el)) (A : Option Addr) (n c : Nat) (w : World) : (Op.equal t (.slice A n c) (.slice none 0 0)).run P w = .ok A.isNone w := by
  show (Op.equalIn (9999 + 1) t (.slice A n c) (.slice none 0 0)).run P w = .ok A.isNone w
  unfold Op.equalIn
  rw [Sem.run_bind, run_underlying h, Result.andThen_ok]
  cases A <;> rfl
theorem run_eq_bool {t : Nat} (h : P.underlying t = some .bool) (p q : Bool) (w : World) : (Op.equal t (.bool p) (.bool q)).run P w = .ok (p == q) w := by
  show (Op.equalIn (9999 + 1) t (.bool p) (.bool q)).run P w = .ok (p == q) w
  unfold Op.equalIn
  rw [Sem.run_bind, run_underlying h, Result.andThen_ok]
  rfl
theorem run_eq_if0 {t : Nat} {ms : Array (String × TypeId)} (h : P.underlying t = some (.interface ms)) (w : World) : (Op.equal t .nilIface .nilIface).run P w = .ok true w := by
  show (Op.equalIn (9999 + 1) t .nilIface .nilIface).run P w = .ok true w
  unfold Op.equalIn
  rw [Sem.run_bind, run_underlying h, Result.andThen_ok]
  rfl
theorem run_eq_if1 {t : Nat} {ms : Array (String × TypeId)} (h : P.underlying t = some (.interface ms)) (u : Nat) (v : Value) (w : World) : (Op.equal t (.iface u v) .nilIface).run P w = .ok false w := by
  show (Op.equalIn (9999 + 1) t (.iface u v) .nilIface).run P w = .ok false w
  unfold Op.equalIn
  rw [Sem.run_bind, run_underlying h, Result.andThen_ok]
  rfl
theorem Qt.eq_of {x y : Operand} {t t' : TypeId} {d : TypeDesc} {u v : Value} {b : Bool} (hx : evE e x = some u) (hy : evE e y = some v) (hT : P.underlying t = some d) (hr : ∀ w, (Op.equal t u v).run P w = .ok b w)
    (hs : ∀ w, (binOp .eql t u v).run P w = (do pure (.bool (← Op.equal t u v)) : Sem Value).run P w) (hg : ∀ w, (eqGuard .eql t x y u v).run P w = .ok () w) : Qt P N w0 e cs (.binOp .eql t x y t') ty (.bool b) := by
  intro a w he ho o' g1 g2
  simp only [execOp, g1, he.ev hx, he.ev hy, Sem.run_bind, hg, Result.andThen_ok, hs, hr, Sem.run_pure]
theorem Qt.ne_of {x y : Operand} {t t' : TypeId} {d : TypeDesc} {u v : Value} {b : Bool} (hx : evE e x = some u) (hy : evE e y = some v) (hT : P.underlying t = some d) (hr : ∀ w, (Op.equal t u v).run P w = .ok b w)
    (hs : ∀ w, (binOp .neq t u v).run P w = (do pure (.bool (!(← Op.equal t u v))) : Sem Value).run P w) (hg : ∀ w, (eqGuard .neq t x y u v).run P w = .ok () w) : Qt P N w0 e cs (.binOp .neq t x y t') ty (.bool (!b)) := by
  intro a w he ho o' g1 g2
  simp only [execOp, g1, he.ev hx, he.ev hy, Sem.run_bind, hg, Result.andThen_ok, hs, hr, Sem.run_pure]
theorem Qt.ptr_eq_nil {x : Operand} {t t' el sz by_ : Nat} {p : Option Addr} (hx : evE e x = some (.pointer p)) (hT : TOk P t ⟨.ptr el, sz, by_⟩) : Qt P N w0 e cs (.binOp .eql t x (.const (.pointer none)) t') ty (.bool p.isNone) :=
  Qt.eq_of hx rfl hT.ptr (fun w => run_eq_ptr hT.ptr _ w) (fun _ => by cases p <;> rfl) (fun _ => rfl)
theorem Qt.ptr_ne_nil {x : Operand} {t t' el sz by_ : Nat} {p : Option Addr} (hx : evE e x = some (.pointer p)) (hT : TOk P t ⟨.ptr el, sz, by_⟩) : Qt P N w0 e cs (.binOp .neq t x (.const (.pointer none)) t') ty (.bool (!p.isNone)) :=
  Qt.ne_of hx rfl hT.ptr (fun w => run_eq_ptr hT.ptr _ w) (fun _ => by cases p <;> rfl) (fun _ => rfl)
theorem Qt.sl_eq_nil {x : Operand} {t t' el sz by_ n cap : Nat} {A : Option Addr} (hx : evE e x = some (.slice A n cap)) (hT : TOk P t ⟨.slice el, sz, by_⟩) : Qt P N w0 e cs (.binOp .eql t x (.const (.slice none 0 0)) t') ty (.bool A.isNone) :=
  Qt.eq_of hx rfl hT.slice (fun w => run_eq_sl hT.slice _ _ _ w) (fun _ => rfl) (fun _ => rfl)
theorem Qt.sl_ne_nil {x : Operand} {t t' el sz by_ n cap : Nat} {A : Option Addr} (hx : evE e x = some (.slice A n cap)) (hT : TOk P t ⟨.slice el, sz, by_⟩) : Qt P N w0 e cs (.binOp .neq t x (.const (.slice none 0 0)) t') ty (.bool (!A.isNone)) :=
  Qt.ne_of hx rfl hT.slice (fun w => run_eq_sl hT.slice _ _ _ w) (fun _ => rfl) (fun _ => rfl)
theorem Qt.if_eq_nil0 {x : Operand} {t t' sz by_ : Nat} (hx : evE e x = some .nilIface) (hT : TOk P t ⟨.iface, sz, by_⟩) : Qt P N w0 e cs (.binOp .eql t x (.const .nilIface) t') ty (.bool true) := by
  obtain ⟨ms, hms⟩ := hT.iface
  exact Qt.eq_of hx rfl hms (fun w => run_eq_if0 hms w) (fun _ => rfl) (fun _ => by simp [eqGuard])
theorem Qt.if_ne_nil0 {x : Operand} {t t' sz by_ : Nat} (hx : evE e x = some .nilIface) (hT : TOk P t ⟨.iface, sz, by_⟩) : Qt P N w0 e cs (.binOp .neq t x (.const .nilIface) t') ty (.bool false) := by
  obtain ⟨ms, hms⟩ := hT.iface
  exact Qt.ne_of (b := true) hx rfl hms (fun w => run_eq_if0 hms w) (fun _ => rfl) (fun _ => by simp [eqGuard])
theorem Qt.if_eq_nil1 {x : Operand} {t t' u sz by_ : Nat} {v : Value} (hx : evE e x = some (.iface u v)) (hT : TOk P t ⟨.iface, sz, by_⟩) : Qt P N w0 e cs (.binOp .eql t x (.const .nilIface) t') ty (.bool false) := by
  obtain ⟨ms, hms⟩ := hT.iface
  exact Qt.eq_of hx rfl hms (fun w => run_eq_if1 hms _ _ w) (fun _ => rfl) (fun _ => rfl)
theorem Qt.if_ne_nil1 {x : Operand} {t t' u sz by_ : Nat} {v : Value} (hx : evE e x = some (.iface u v)) (hT : TOk P t ⟨.iface, sz, by_⟩) : Qt P N w0 e cs (.binOp .neq t x (.const .nilIface) t') ty (.bool true) := by
  obtain ⟨ms, hms⟩ := hT.iface
  exact Qt.ne_of (b := false) hx rfl hms (fun w => run_eq_if1 hms _ _ w) (fun _ => rfl) (fun _ => rfl)
theorem Qt.beq {x y : Operand} {t t' sz by_ : Nat} {p q : Bool} (hx : evE e x = some (.bool p)) (hy : evE e y = some (.bool q)) (hT : TOk P t ⟨.bool, sz, by_⟩) : Qt P N w0 e cs (.binOp .eql t x y t') ty (.bool (p == q)) :=
  Qt.eq_of hx hy hT.bool (fun w => run_eq_bool hT.bool _ _ w) (fun _ => rfl) (fun _ => rfl)
theorem Qt.bne {x y : Operand} {t t' sz by_ : Nat} {p q : Bool} (hx : evE e x = some (.bool p)) (hy : evE e y = some (.bool q)) (hT : TOk P t ⟨.bool, sz, by_⟩) : Qt P N w0 e cs (.binOp .neq t x y t') ty (.bool (!(p == q))) :=
  Qt.ne_of hx hy hT.bool (fun w => run_eq_bool hT.bool _ _ w) (fun _ => rfl) (fun _ => rfl)
theorem Qt.bytes_str {x : Operand} {s d el n cap sz by_ sz' by' sz'' by'' : Nat} {A : Option Addr} {l : List UInt8} (hx : evE e x = some (.slice A n cap)) (hS : TOk P s ⟨.slice el, sz, by_⟩) (hE : TOk P el ⟨.int .u8, sz', by'⟩) (hD : TOk P d ⟨.string, sz'', by''⟩) (hr : Reads w0 cs A n cap (l.map u8v)) :
    Qt P N w0 e cs (.convert s d x) ty (str l) := by
  intro a w he ho o' g1 g2
  obtain ⟨r1, r2, r3, r4, r5⟩ := hr w ho
  simp at r1
  subst r1
  simp only [execOp, g1, he.ev hx, Sem.run_bind]
  cases A with
  | none =>
    have := r4 rfl
    have : l = [] := List.eq_nil_of_length_eq_zero (by omega)
    subst this
    rw [run_convert_bytes_string w s d el none _ _ hS.slice hE.int hD.string]
    rfl
  | some ad =>
    rw [run_convert_bytes_back w s d el ad cap l hS.slice hE.int hD.string]
    · rfl
    · intro j hj
      have := r5 j (u8v l[j]) (by simp [hj])
      simpa [sadr] using this
end
end Go.Proofs.YtbglphpinhjfeaaGreatDoor
