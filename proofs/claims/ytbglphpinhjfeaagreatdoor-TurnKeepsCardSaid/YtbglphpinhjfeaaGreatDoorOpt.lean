/- Operations that write or make memory, and calls, as rules of the separation logic. -/
import Derived.Test.YtbglphpinhjfeaaGreatDoorOps
import Derived.Lib.ConvBytes
import Derived.Laws.MakeOwn
import Derived.Laws.OwnMore
import Derived.Laws.Tables
namespace Go.Proofs.YtbglphpinhjfeaaGreatDoor
open Go Go.RowKit
set_option linter.unusedVariables false
set_option linter.unusedSimpArgs false

def setL : List Value → Nat → List Value → List Value
  | cur, _, [] => cur
  | cur, o, v :: vs => setL (cur.set o v) (o + 1) vs
theorem setL_length : ∀ (vs cur : List Value) (o : Nat), (setL cur o vs).length = cur.length
  | [], _, _ => rfl
  | v :: vs, cur, o => by simp [setL, setL_length vs]
theorem setL_eq : ∀ (vs cur : List Value) (o : Nat), o + vs.length ≤ cur.length → setL cur o vs = cur.take o ++ vs ++ cur.drop (o + vs.length)
  | [], cur, o, _ => by simp [setL]
  | v :: vs, cur, o, h => by
    simp only [List.length_cons] at h
    rw [setL, setL_eq vs _ _ (by simp; omega)]
    have := list_seg_step cur o v vs (by omega)
    rw [this]
    simp [Nat.add_assoc, Nat.add_comm]

theorem take_drop_setL (n off : Nat) (cur ys : List Value) (h : off + n + ys.length ≤ cur.length) : ((setL cur (off + n) ys).drop off).take (n + ys.length) = (cur.drop off).take n ++ ys := by
  rw [setL_eq _ _ _ h, List.append_assoc, List.drop_append_of_le_length (by simp; omega), List.drop_take, show off + n - off = n by omega]
  have e2 : ((cur.drop off).take n).length = n := by simp; omega
  generalize (cur.drop off).take n = l at e2 ⊢
  subst e2
  rw [List.take_length_add_append, List.take_append_of_le_length (Nat.le_refl _), List.take_length]
section
variable {P : Program} {N : Nat} {w0 : World} {e : Env} {cs : List SProp} {ty : TypeId}
theorem heap_setRow {w : World} {g : Nat} {cur cur' : Array Value} {t : TypeId} {fz : Nat × Nat} (h : w.heap[g]? = some (.cells cur t fz)) : (w.setRow g cur').heap[g]? = some (.cells cur' t fz) := setRow_heap w g cur cur' t fz h
theorem Only.setRow (w : World) (g : Nat) (cur' : Array Value) : Only w (w.setRow g cur') (· = g) :=
  ⟨rfl, rfl, rfl, by simp [World.setRow], fun k hk hne => setRow_other w g k cur' (fun h => hne h)⟩
/-- Stores into a row none of whose cells is frozen. -/
theorem run_storeCells_ok (g o : Nat) (t : TypeId) (fz : Nat × Nat) : ∀ (vs : List Value) (i : Nat) (cur : List Value) (w : World), w.heap[g]? = some (.cells cur.toArray t fz) → Fz cur.length fz → o + i + vs.length ≤ cur.length → (∀ v ∈ vs, v.oneCell' = true) →
    (storeCells ⟨g, o, none⟩ vs i).run P w = .ok () (w.setRow g (setL cur (o + i) vs).toArray)
  | [], i, cur, w, hg, _, _, _ => by
    simp only [storeCells, setL]
    rw [setRow_self w g _ t fz hg]
    rfl
  | v :: rest, i, cur, w, hg, hfz, hl, h1 => by
    have hi : o + i < cur.length := by simp at hl; omega
    have hcell : w.cell? ⟨g, o + i, none⟩ = some cur[o + i] := by simp [World.cell?, hg, hi]
    have hfro : w.frozen? ⟨g, o + i, none⟩ = false := by
      obtain ⟨lo, hi'⟩ := fz
      have := hfz.not (o + i) hi
      simp only [World.frozen?, hg, Bool.and_eq_false_iff, decide_eq_false_iff_not]
      simp only at this
      omega
    have hst : (store ((⟨g, o, none⟩ : Addr).add i) v).run P w = .ok () (w.setRow g (cur.set (o + i) v).toArray) := by
      rw [add_lit, run_store P w _ v _ (h1 v (by simp)), hcell]
      simp [hfro, setCell_eq_setRow w g (o + i) cur.toArray t fz v hg]
    have ih := run_storeCells_ok g o t fz rest (i + 1) (cur.set (o + i) v) (w.setRow g (cur.set (o + i) v).toArray) (heap_setRow hg) (by simpa using hfz) (by simp at hl ⊢; omega) (fun x hx => h1 x (by simp [hx]))
    simp only [storeCells, Sem.run_bind, hst, Result.andThen_ok, ih, setRow_setRow, setL, Nat.add_assoc]

/-! ### New blocks -/
def NewBlk (z : List Value) (t : TypeId) (cs : List SProp) (v : Value) (cs' : List SProp) : Prop := ∃ b, v = .pointer (some ⟨b, 0, none⟩) ∧ cs' = blk b z t :: cs
theorem run_zeroValue {t : Nat} {z : List Value} (hZ : ZOk P t z) (w : World) : ∃ v : Value, (zeroValue t).run P w = .ok v w ∧ v.cells.toList = z := by
  obtain ⟨i, v, h1, h2, h3, h4⟩ := hZ.ok
  exact ⟨v, by simp [zeroValue, typeInfo, h1, h2], h3⟩
theorem Ef.alloc {t : TypeId} {z : List Value} (hZ : ZOk P t z) : Ef P N w0 e cs (.alloc t) ty (NewBlk z t cs) := by
  intro a w he ho o' h1 h2 K Q hK
  obtain ⟨i, v, g1, g2, g3, g4⟩ := hZ.ok
  have hr : (execOp a.eval o').run P w = .ok (.value (.pointer (some ⟨w.heap.size, 0, none⟩))) (w.alloc (.cells z.toArray t)) := by
    simp only [execOp, h1]
    rw [← g3]
    simp [Instr.alloc, zeroValue, typeInfo, g1, g2, newVar, newRow]
  unfold Oper.wp
  rw [hr]
  exact hK _ _ _ ⟨_, rfl, rfl⟩ (ho.alloc z t)
theorem Ef.box {x : Operand} {t : TypeId} {v : Value} {vs : List Value} (hx : evE e x = some v) (hv : v.cells.toList = vs) : Ef P N w0 e cs (.box t x) ty (NewBlk vs t cs) := by
  intro a w he ho o' h1 h2 K Q hK
  have hr : (execOp a.eval o').run P w = .ok (.value (.pointer (some ⟨w.heap.size, 0, none⟩))) (w.alloc (.cells vs.toArray t)) := by
    simp only [execOp, h1, he.ev hx]
    rw [← hv]
    simp [Instr.box, newVar, newRow]
  unfold Oper.wp
  rw [hr]
  exact hK _ _ _ ⟨_, rfl, rfl⟩ (ho.alloc vs t)
/-- A struct that is built: the zero value with parts laid over it. -/
def fillV (fs : List (Nat × Nat × Nat)) : List Value → List (Nat × Value) → Option (List Value)
  | cells, [] => some cells
  | cells, (i, v) :: rest => match fs[i]? with
    | none => none
    | some (off, _, sz) => bif (Nat.beq v.cells.toList.length sz && Nat.ble (off + sz) cells.length) then fillV fs (setL cells off v.cells.toList) rest else none
theorem foldl_setL : ∀ (vs : List Value) (cells : Array Value) (off k : Nat), (vs.zipIdx k).foldl (fun (cs : Array Value) (p : Value × Nat) => cs.setIfInBounds (off + p.2) p.1) cells = (setL cells.toList (off + k) vs).toArray
  | [], cells, off, k => by simp [setL]
  | v :: vs, cells, off, k => by
    simp only [List.zipIdx_cons, List.foldl_cons, setL]
    rw [foldl_setL vs]
    simp [Nat.add_assoc]
theorem fill_of {fs : List (Nat × Nat × Nat)} {place : Nat → Option (Nat × Nat)} (hp : ∀ i, place i = (fs[i]?).map fun p => (p.1, p.2.2)) : ∀ (parts : List (Nat × Value)) (cells r : List Value), fillV fs cells parts = some r → Instr.fill place cells.toArray parts = some r.toArray
  | [], cells, r, h => by simp [fillV] at h; simp [Instr.fill, h]
  | (i, v) :: rest, cells, r, h => by
    simp only [fillV] at h
    cases hf : fs[i]? with
    | none => simp [hf] at h
    | some q =>
      obtain ⟨off, t, sz⟩ := q
      simp only [hf] at h
      cases hc : (Nat.beq v.cells.toList.length sz && Nat.ble (off + sz) cells.length) with
      | false => rw [hc] at h; simp at h
      | true =>
        rw [hc] at h
        simp only [cond_true] at h
        simp only [Bool.and_eq_true, Nat.beq_eq, Nat.ble_eq] at hc
        have h1 : v.cells.size = sz := by simpa using hc.1
        have ih := fill_of hp rest _ r h
        simp only [Instr.fill, hp, hf, Option.map_some]
        rw [if_neg (by simp [h1]; exact hc.2)]
        rw [← ih]
        congr 1
        rw [← Array.foldl_toList, Array.toList_zipIdx, foldl_setL v.cells.toList cells.toArray off 0]
        simp
def partsE (e : Env) : List (Nat × Operand) → Option (List (Nat × Value))
  | [] => some []
  | (i, x) :: ps => match evE e x, partsE e ps with
    | some v, some vs => some ((i, v) :: vs)
    | _, _ => none
theorem EnvOK.parts {a : Act} (h : EnvOK N e a) : ∀ {ps : List (Nat × Operand)} {vs : List (Nat × Value)}, partsE e ps = some vs → ps.map (fun (i, x) => (i, a.eval x)) = vs
  | [], vs, hx => by simpa [partsE] using hx
  | (i, x) :: xs, vs, hx => by
    simp only [partsE] at hx
    split at hx
    · rename_i v us hv hu
      injection hx with hx
      subst hx
      rw [List.map_cons, h.parts hu]
      simp only [h.ev hv]
    · cases hx
theorem Qt.build {t sz by_ : Nat} {fs : List (Nat × Nat × Nat)} {z r : List Value} {ps : List (Nat × Operand)} {vs : List (Nat × Value)} (hT : TOk P t ⟨.struct fs, sz, by_⟩) (hZ : ZOk P t z) (hp : partsE e ps = some vs) (hr : fillV fs z vs = some r) :
    Qt P N w0 e cs (.build t ps.toArray) ty (.agg r.toArray) := by
  intro a w he ho o' g1 g2
  simp only [execOp, g1]
  obtain ⟨fa, hu, hm⟩ := hT.struct
  obtain ⟨i, v, z1, z2, z3, z4⟩ := hZ.ok
  have hb : P.built t (ps.toArray.map fun (i, x) => (i, a.eval x)).toList = some r.toArray := by
    have hpl : fa.toList.mapM (fun f => (P.info? f.type).map fun i => (f.offset, i.size)) = some (fs.map fun p => (p.1, p.2.2)) := by
      have hsz := hT.fsz
      clear hr hu
      revert hm hsz
      generalize fa.toList = fl
      intro hm hsz
      clear hT
      induction fl generalizing fs with
      | nil => cases fs <;> simp at hm ⊢
      | cons f fl ih =>
        cases fs with
        | nil => simp at hm
        | cons q fs =>
          simp only [List.map_cons, List.cons.injEq, Prod.mk.injEq] at hm
          have h1 := hsz q (by simp)
          rw [← hm.1.2] at h1
          cases hi : P.info? f.type with
          | none => simp [hi] at h1
          | some ii =>
            simp [hi] at h1
            have := ih hm.2 (fun p hp => hsz p (by simp [hp]))
            simp [List.mapM_cons, hi, this, h1, hm.1.1]
    simp only [Program.built, z1, hu, z2, hpl]
    have := fill_of (fs := fs) (place := ((fs.map fun p => (p.1, p.2.2)).toArray[·]?)) (by intro i; simp) vs z r hr
    rw [← z3] at this
    simpa [he.parts hp] using this
  have h2 := run_build (P := P) w t _ _ hb
  simp only [Sem.run_bind, Sem.run_pure, h2, Result.andThen_ok]
/-- A slice literal: each element given. -/
def seqIdx : Nat → List (Nat × Operand) → Bool
  | _, [] => true
  | k, (i, _) :: ps => Nat.beq i k && seqIdx (k + 1) ps
/-- The elements of a slice literal, each given in its place. -/
def partsV (e : Env) : Nat → List (Nat × Operand) → Option (List Value)
  | _, [] => some []
  | k, (i, x) :: ps => bif Nat.beq i k then (match evE e x, partsV e (k + 1) ps with
    | some v, some vs => some (v :: vs)
    | _, _ => none) else none
theorem partsV_spec {e : Env} : ∀ {ps : List (Nat × Operand)} {k : Nat} {xs : List Value}, partsV e k ps = some xs → ∃ vs, partsE e ps = some vs ∧ seqIdx k ps = true ∧ vs.map (·.2) = xs
  | [], k, xs, h => by simp [partsV] at h; subst h; exact ⟨[], rfl, rfl, rfl⟩
  | (i, x) :: ps, k, xs, h => by
    simp only [partsV] at h
    cases hb : Nat.beq i k with
    | false => rw [hb] at h; simp at h
    | true =>
      rw [hb] at h
      simp only [cond_true] at h
      split at h
      · rename_i v us hv hu
        injection h with h
        subst h
        obtain ⟨vs, h1, h2, h3⟩ := partsV_spec hu
        exact ⟨(i, v) :: vs, by simp [partsE, hv, h1], by simp [seqIdx, hb, h2], by simp [h3]⟩
      · cases h
def NewSl (el : TypeId) (n : Nat) (xs : List Value) (cs : List SProp) (v : Value) (cs' : List SProp) : Prop := ∃ A c, v = .slice A n c ∧ cs' = osl el A n c xs :: cs
theorem Own.new_osl {w : World} {el : TypeId} {xs cur : List Value} {n cap : Nat} (hn : xs.length = n) (hc : n ≤ cap) (hm : cap ≤ maxLen) (hcur : cur.length = cap) (ht : cur.take n = xs) (h1 : ∀ x ∈ xs, x.oneCell' = true) (ho : Own w0 w cs) :
    Own w0 (w.alloc (.cells cur.toArray el)) (osl el (some ⟨w.heap.size, 0, none⟩) n cap xs :: cs) := by
  refine Own.frame0 ho (Only.alloc _ _ _) ⟨[(w.heap.size, .cells cur.toArray el)], ⟨⟨hn, hc, hm⟩, .inr ⟨_, 0, cur, (0, 0), rfl, by omega, .inl rfl, by simpa using ht, h1, rfl⟩⟩, by simp, ?_, by simp⟩
  · intro p hp
    rw [List.mem_singleton.1 hp]
    exact heap_alloc_new w _
theorem Ef.buildSlice {t el sz by_ len : Nat} {ei : TI} {z : Value} {ps : List (Nat × Operand)} {xs : List Value} (hT : TOk P t ⟨.slice el, sz, by_⟩) (hE : TOk P el ei) (hs : ei.size = 1) (hZ : ZOk P el [z]) (hpv : partsV e 0 ps = some xs) (hl : xs.length = len) (h24 : Nat.ble len 16777216 = true) (h1 : ∀ x ∈ xs, x.oneCell' = true) :
    Ef P N w0 e cs (.buildSlice t len ps.toArray) ty (NewSl el len xs cs) := by
  intro a w he ho o' g1 g2 K Q hK
  obtain ⟨vs, hp, hq, hx⟩ := partsV_spec hpv
  have h24 : len ≤ 16777216 := by simpa using h24
  obtain ⟨i, zv, z1, z2, z3, z4⟩ := hZ.ok
  have hzc : zv.cells = #[z] := by
    have : zv.cells = zv.cells.toList.toArray := by simp
    rw [this, z3]
  have hvs := he.parts hp
  have key : ∀ (ps : List (Nat × Operand)) (vs : List (Nat × Value)) (k : Nat) (cur : List Value), partsE e ps = some vs → seqIdx k ps = true → k + vs.length ≤ cur.length → (∀ x ∈ vs.map (·.2), x.oneCell' = true) →
      Instr.fill (fun i => some (i * 1, 1)) cur.toArray vs = some (setL cur k (vs.map (·.2))).toArray := by
    intro ps
    induction ps with
    | nil => intro vs k cur h _ _ _; simp [partsE] at h; subst h; simp [Instr.fill, setL]
    | cons p ps ih =>
      intro vs k cur h hq hk h1
      obtain ⟨i, x⟩ := p
      simp only [partsE] at h
      split at h
      · rename_i v us hv hu
        injection h with h
        subst h
        simp only [seqIdx, Bool.and_eq_true, Nat.beq_eq] at hq
        obtain ⟨rfl, hq⟩ := hq
        have hv1 : v.cells = #[v] := by
          have := h1 v (by simp)
          cases v <;> simp [Value.oneCell'] at this <;> rfl
        simp only [List.length_cons] at hk
        simp only [Instr.fill, hv1]
        rw [if_neg (by simp; omega)]
        have := ih us (i + 1) (cur.set i v) hu hq (by simp; omega) (fun x hx => h1 x (by simp at hx ⊢; exact .inr hx))
        rw [List.map_cons, setL, ← this]
        congr 1
        simp
      · cases h
  have hlen : vs.length = len := by rw [← hl, ← hx]; simp
  have hf := key ps vs 0 (List.replicate len z) hp hq (by simp [hlen]) (by rw [hx]; exact h1)
  have hset : setL (List.replicate len z) 0 (vs.map (·.2)) = xs := by
    rw [setL_eq _ _ _ (by simp [hlen]), hx]
    simp [hl]
  rw [hset] at hf
  have hzer : ((Array.range (len * 1)).map fun i => zv.cells[i % zv.cells.size]!) = (List.replicate len z).toArray := by
    apply Array.ext
    · simp
    · intro i h1 h2; simp [hzc, Nat.mod_one]
  have hr : (Instr.buildSlice t len (ps.toArray.map fun (i, x) => (i, a.eval x))).run P w = .ok (.slice (some ⟨w.heap.size, 0, none⟩) len len) (w.alloc (.cells xs.toArray el)) := by
    have hps : (ps.toArray.map fun (i, x) => (i, a.eval x)).toList = vs := by simpa using hvs
    unfold Instr.buildSlice
    have hsz := run_sizeOf hE
    rw [hs] at hsz
    have h24' : ¬ (16777216 < len * 1) := by omega
    have h24'' : ¬ (len * 1 > 2 ^ 24) := by omega
    simp only [Sem.run_bind, run_underlying hT.slice, Result.andThen_ok, hsz]
    by_cases h0 : len * 1 = 0
    · have : len = 0 := by omega
      subst this
      have hx0 : xs = [] := List.eq_nil_of_length_eq_zero hl
      subst hx0
      have hv0 : vs = [] := List.eq_nil_of_length_eq_zero hlen
      subst hv0
      simp only [Array.toList_map] at hps
      simp [hps, Instr.fill, newRow, Array.range]
    · have hzv : (zeroValue el).run P w = .ok zv w := by simp [zeroValue, typeInfo, z1, z2]
      rw [if_neg h24'', if_neg h0]
      simp only [Sem.run_bind, hzv, Result.andThen_ok, Sem.run_pure, hps, hzer, hf]
      simp [newRow]
  have hr2 : (execOp a.eval o').run P w = .ok (.value (.slice (some ⟨w.heap.size, 0, none⟩) len len)) (w.alloc (.cells xs.toArray el)) := by
    simp only [execOp, g1]
    simp only [Sem.run_bind, hr, Result.andThen_ok, Sem.run_pure]
  unfold Oper.wp
  rw [hr2]
  exact hK _ _ _ ⟨_, _, rfl, rfl⟩ (Own.new_osl hl (Nat.le_refl _) (by simp [maxLen]; omega) hl (by rw [← hl]; simp) h1 ho)

/-! ### Stores -/
def Wrote (cs1 : List SProp) (v : Value) (cs' : List SProp) : Prop := cs' = cs1
theorem Own.store_blk {w : World} {b o : Nat} {cur vs : List Value} {bt : TypeId} (hl : o + vs.length ≤ cur.length) (h1 : ∀ v ∈ vs, v.oneCell' = true) (ho : Own w0 w (blk b cur bt :: cs)) :
    (storeCells ⟨b, o, none⟩ vs).run P w = .ok () (w.setRow b (setL cur o vs).toArray) ∧ Own w0 (w.setRow b (setL cur o vs).toArray) (blk b (setL cur o vs) bt :: cs) := by
  obtain ⟨fz, hfz, hw, hb⟩ := ho.blk_at (.head _)
  refine ⟨by simpa using run_storeCells_ok (P := P) b o bt fz vs 0 cur w hw hfz (by simpa using hl) h1, ?_⟩
  refine ho.frame ?_
  rintro F1 ⟨fz', hfz', rfl⟩ _ hF
  have hw' := (hF _ (List.mem_singleton_self _)).2
  have e2 : fz' = fz := by
    have := hw'.symm.trans hw
    injection this with this
    injection this
  subst e2
  refine ⟨?_, [(b, .cells (setL cur o vs).toArray bt fz')], ⟨fz', by simpa [setL_length] using hfz, rfl⟩, by simp, ?_, ?_⟩
  · have := Only.setRow w b (setL cur o vs).toArray
    exact ⟨this.os, this.tape, this.output, this.size, fun k hk hne => this.block k hk (fun h => hne (by simp [h]))⟩
  · intro p hp
    rw [List.mem_singleton.1 hp]
    exact heap_setRow hw
  · intro p hp
    rw [List.mem_singleton.1 hp]
    simp
theorem storeVar_run {t : Nat} {ti : TI} (hT : TOk P t ti) {v : Value} {vs : List Value} (hv : v.cells.toList = vs) (hs : vs.length = ti.size) (p : Addr) (w : World) : (storeVar t p v).run P w = (storeCells p vs).run P w := by
  have h1 : v.cells.size = ti.size := by rw [← hs, ← hv]; simp
  unfold storeVar
  simp only [Sem.run_bind, run_sizeOf hT, Result.andThen_ok]
  rw [if_neg (by simp [h1]), hv]
theorem Ef.store {x y : Operand} {t b o : Nat} {ti : TI} {cur vs : List Value} {bt : TypeId} {v : Value} {cs1 : List SProp} (hx : evE e x = some (.pointer (some ⟨b, o, none⟩))) (hy : evE e y = some v) (hT : TOk P t ti) (hv : v.cells.toList = vs) (hs : vs.length = ti.size) (h1 : ∀ v ∈ vs, v.oneCell' = true)
    (hu : Upd cs (blk b cur bt) (blk b (setL cur o vs) bt) cs1) (hl : Nat.ble (o + vs.length) cur.length = true) : Ef P N w0 e cs (.store t x y) ty (Wrote cs1) := by
  intro a w he ho o' g1 g2 K Q hK
  have hl' : o + vs.length ≤ cur.length := by simpa using hl
  obtain ⟨r, p1, p2⟩ := hu.perm
  have h2 := Own.store_blk (P := P) hl' h1 (ho.perm p1)
  have hr : (execOp a.eval o').run P w = .ok .skip (w.setRow b (setL cur o vs).toArray) := by
    simp only [execOp, g1, he.ev hx, he.ev hy]
    simp only [Instr.storeAt, Instr.sureAddr, Sem.run_bind, Sem.run_pure, Result.andThen_ok, storeVar_run hT hv hs, h2.1]
  unfold Oper.wp
  rw [hr]
  exact hK undef _ _ rfl (h2.2.perm p2.symm)
theorem Own.store_el {w : World} {i n cap : Nat} {A : Option Addr} {xs : List Value} {v : Value} {et : TypeId} (hi : i < n) (h1 : v.oneCell' = true) (ho : Own w0 w (osl et A n cap xs :: cs)) :
    ∃ w', (storeCells (sadr A i) [v]).run P w = .ok () w' ∧ Own w0 w' (osl et A n cap (xs.set i v) :: cs) := by
  obtain ⟨F, ⟨⟨l1, l2, l3⟩, hc⟩, _, hF⟩ := ho.mem (.head _)
  rcases hc with ⟨rfl, rfl⟩ | ⟨b, off, cur, fz, rfl, hcap, hfz, htake, hone, rfl⟩
  · omega
  · have hw := (hF _ (List.mem_singleton_self _)).2
    refine ⟨w.setRow b (cur.set (off + i) v).toArray, ?_, ?_⟩
    · rw [sadr_lit]
      have := run_storeCells_ok (P := P) b (off + i) et fz [v] 0 cur w hw hfz (by simp; omega) (by simpa using h1)
      simpa [setL] using this
    · refine ho.frame ?_
      rintro F1 ⟨_, hc1⟩ _ hF1
      rcases hc1 with ⟨h, _⟩ | ⟨b', off', cur', fz', hA, hcap', hfz', htake', hone', rfl⟩
      · omega
      · simp only [Option.some.injEq, Addr.mk.injEq, and_true] at hA
        obtain ⟨rfl, rfl⟩ := hA
        have hw' := (hF1 _ (List.mem_singleton_self _)).2
        have e2 := hw'.symm.trans hw
        injection e2 with e2
        injection e2 with e3 _ e4
        have e3' : cur' = cur := by simpa using e3
        subst e3' e4
        refine ⟨?_, [(b, .cells (cur'.set (off + i) v).toArray et fz')], ⟨⟨by simp [l1], l2, l3⟩, .inr ⟨b, off, cur'.set (off + i) v, fz', rfl, by simpa using hcap, by simpa using hfz, ?_, ?_, rfl⟩⟩, by simp, ?_, ?_⟩
        · have := Only.setRow w b (cur'.set (off + i) v).toArray
          exact ⟨this.os, this.tape, this.output, this.size, fun k hk hne => this.block k hk (fun h => hne (by simp [h]))⟩
        · rw [← htake]
          apply List.ext_getElem?
          intro j
          simp only [List.getElem?_take, List.getElem?_drop, List.getElem?_set]
          by_cases hj : j < n
          · simp only [hj, if_true]
            by_cases hij : i = j
            · subst hij
              simp [hj]
              have : off + i < cur'.length := by omega
              simp [this]
              omega
            · have : ¬ off + i = off + j := by omega
              simp [hij, this]
          · simp only [hj, if_false]
            by_cases hij : i = j
            · omega
            · simp [hij]
        · intro x hx
          rcases List.mem_or_eq_of_mem_set hx with h | rfl
          · exact hone x h
          · exact h1
        · intro p hp
          rw [List.mem_singleton.1 hp]
          exact heap_setRow hw
        · intro p hp
          rw [List.mem_singleton.1 hp]
          simp
theorem Ef.store_el {x y : Operand} {t i n cap : Nat} {ti : TI} {A : Option Addr} {xs : List Value} {v : Value} {et : TypeId} {cs1 : List SProp} (hx : evE e x = some (.pointer (some (sadr A i)))) (hy : evE e y = some v) (hT : TOk P t ti) (hs : ti.size = 1) (h1 : v.oneCell' = true)
    (hu : Upd cs (osl et A n cap xs) (osl et A n cap (xs.set i v)) cs1) (hi : i < n) : Ef P N w0 e cs (.store t x y) ty (Wrote cs1) := by
  intro a w he ho o' g1 g2 K Q hK
  obtain ⟨r, p1, p2⟩ := hu.perm
  obtain ⟨w', h2, h3⟩ := Own.store_el (P := P) hi h1 (ho.perm p1)
  have hvc : v.cells.toList = [v] := by cases v <;> simp [Value.oneCell'] at h1 <;> rfl
  have hr : (execOp a.eval o').run P w = .ok .skip w' := by
    simp only [execOp, g1, he.ev hx, he.ev hy]
    simp only [Instr.storeAt, Instr.sureAddr, Sem.run_bind, Sem.run_pure, Result.andThen_ok, storeVar_run hT hvc (by simp [hs]), h2]
  unfold Oper.wp
  rw [hr]
  exact hK undef _ _ rfl (h3.perm p2.symm)

theorem Ef.store_map {α : Type} {f : α → Value} {l : List α} {b : α} {x y : Operand} {t n cap : Nat} {i : Int} {ti : TI} {A : Option Addr} {et : TypeId} {cs1 : List SProp} (hx : evE e x = some (.pointer (some (sadr A i.toNat)))) (hy : evE e y = some (f b)) (hT : TOk P t ti) (hs : ti.size = 1) (h1 : ∀ a, (f a).oneCell' = true)
    (hu : Upd cs (osl et A n cap (l.map f)) (osl et A n cap ((l.set i.toNat b).map f)) cs1) (hi : i.toNat < n) : Ef P N w0 e cs (.store t x y) ty (Wrote cs1) :=
  Ef.store_el hx hy hT hs (h1 b) (by rw [List.map_set] at hu; exact hu) hi

/-! ### append -/
def Grew (et : TypeId) (m : Nat) (xs : List Value) (cs1 : Option Addr → Nat → List SProp) (v : Value) (cs' : List SProp) : Prop := ∃ A c, v = .slice A m c ∧ cs' = cs1 A c
theorem Own.append {w : World} {t el n cap m : Nat} {ei : TI} {z : Value} {A : Option Addr} {xs ys : List Value} {u : TypeId} {x : Value} (hT : P.underlying t = some (.slice el)) (hE : TOk P el ei) (hs : ei.size = 1) (hZ : ZOk P el [z])
    (hsrc : ∀ (w : World), Own w0 w (osl el A n cap xs :: cs) → (Builtin.firstCells 1 m x).run P w = .ok ys.toArray w) (hlen : ∀ w, (Builtin.lenOf x).run P w = .ok m w) (hu : ∃ d, P.underlying u = some d ∧ ∀ k, d ≠ .int k)
    (hm : ys.length = m) (hy1 : ∀ y ∈ ys, y.oneCell' = true) (hb : (n + m) * ei.bytes ≤ 140737488355328) (hb' : n + m ≤ maxLen) (ho : Own w0 w (osl el A n cap xs :: cs)) :
    ∃ A' c' w', (Builtin.append_ #[t, u] ty #[.slice A n cap, x]).run P w = .ok (.slice A' (n + m) c') w' ∧ ∀ r, Own w0 w (osl el A n cap xs :: r) → Own w0 w' (osl el A' (n + m) c' (xs ++ ys) :: r) := by
  obtain ⟨F, ⟨⟨l1, l2, l3⟩, hc⟩, _, hF⟩ := ho.mem (.head _)
  obtain ⟨i, zv, z1, z2, z3, z4⟩ := hZ.ok
  obtain ⟨i', q1, q2, q3⟩ := hE.inf
  have : i = i' := by rw [z1] at q1; injection q1
  subst this
  have hzc : zv.cells = #[z] := by
    have : zv.cells = zv.cells.toList.toArray := by simp
    rw [this, z3]
  have hsz : i.size = 1 := by rw [q2, hs]
  obtain ⟨du, hdu, hnint⟩ := hu
  have hzeros : (match du with | .int _ => true | _ => false) = false := by cases du <;> first | rfl | exact absurd rfl (hnint _)
  have hxone : ∀ y ∈ xs, y.oneCell' = true := by
    rcases hc with ⟨rfl, rfl⟩ | ⟨b, off, cur, fz, rfl, hcap, hfz, htake, hone, rfl⟩
    · have : xs = [] := List.eq_nil_of_length_eq_zero (by omega)
      subst this; simp
    · exact hone
  have hall : ∀ y ∈ xs ++ ys, y.oneCell' = true := by
    intro y hy; rcases List.mem_append.1 hy with h | h
    · exact hxone y h
    · exact hy1 y h
  by_cases hroom : n + m ≤ cap
  · by_cases hc0 : cap = 0
    · subst hc0
      have hn0 : n = 0 := by omega
      have hm0 : m = 0 := by omega
      subst hn0 hm0
      have hx0 : xs = [] := List.eq_nil_of_length_eq_zero l1
      have hy0 : ys = [] := List.eq_nil_of_length_eq_zero hm
      subst hx0 hy0
      refine ⟨A, 0, w, ?_, fun r hr => hr⟩
      cases A <;> simp [Builtin.append_, run_underlying hT, run_underlying hdu, run_sizeOf hE, hs, hzeros, hlen, hsrc w ho, storeCells]
    rcases hc with ⟨h0, _⟩ | ⟨b, off, cur, fz, rfl, hcap, hfz, htake, hone, rfl⟩
    · exact absurd h0 hc0
    · have hw := (hF _ (List.mem_singleton_self _)).2
      have hst := run_storeCells_ok (P := P) b (off + n) el fz ys 0 cur w hw hfz (by simp; omega) hy1
      simp only [Nat.add_zero] at hst
      refine ⟨some ⟨b, off, none⟩, cap, w.setRow b (setL cur (off + n) ys).toArray, ?_, ?_⟩
      · simp [Builtin.append_, run_underlying hT, run_underlying hdu, run_sizeOf hE, hs, hzeros, hlen, hsrc w ho, hroom, add_lit, hst]
      · intro r ho
        refine ho.frame ?_
        rintro F1 ⟨_, hc1⟩ _ hF1
        rcases hc1 with ⟨h, hF0⟩ | ⟨b', off', cur', fz', hA, hcap', hfz', htake', hone', rfl⟩
        · exact absurd h hc0
        · simp only [Option.some.injEq, Addr.mk.injEq, and_true] at hA
          obtain ⟨rfl, rfl⟩ := hA
          have hw' := (hF1 _ (List.mem_singleton_self _)).2
          have e2 := hw'.symm.trans hw
          injection e2 with e2
          injection e2 with e3 _ e4
          have e3' : cur' = cur := by simpa using e3
          subst e3' e4
          refine ⟨?_, [(b, .cells (setL cur' (off + n) ys).toArray el fz')], ⟨⟨by simp [l1, hm], by omega, l3⟩, .inr ⟨b, off, _, fz', rfl, by simpa [setL_length] using hcap, by simpa [setL_length] using hfz, ?_, hall, rfl⟩⟩, by simp, ?_, ?_⟩
          · have := Only.setRow w b (setL cur' (off + n) ys).toArray
            exact ⟨this.os, this.tape, this.output, this.size, fun k hk hne => this.block k hk (fun h => hne (by simp [h]))⟩
          · rw [← hm, ← htake]
            exact take_drop_setL n off cur' ys (by omega)
          · intro p hp
            rw [List.mem_singleton.1 hp]
            exact heap_setRow hw
          · intro p hp
            rw [List.mem_singleton.1 hp]
            simp
  · have hg := grownCap_ge w (n + m) cap el
    have hgm := grownCap_le_maxLen w (n + m) cap el hb'
    have hfits := growslice_fits (bytes := ei.bytes) (show cap < n + m by omega) hb
    have hold : (Builtin.firstCells 1 n (.slice A n cap)).run P w.drew = .ok xs.toArray w.drew := by
      have hr : RdW w.drew A n cap xs := osl_reads (.head _) _ ho.drew
      cases A with
      | none =>
        have := hr.nil rfl
        have : xs = [] := List.eq_nil_of_length_eq_zero (by omega)
        subst this
        exact run_firstCells_none _ 1 n n cap
      | some ad =>
        exact run_firstCells_some w.drew 1 n ad n cap xs (by omega) (by simpa [sadr] using hr.cells)
    have hnew := hsrc w.drew ho.drew
    have h63 : ¬ (9223372036854775807 < ((n : Int) + (m : Int))) := by simp only [maxLen] at hb'; omega
    have h48 : ¬ (281474976710656 < Builtin.nextslicecap (n + m) cap * i.bytes) := by rw [q3]; omega
    refine ⟨some ⟨w.heap.size, 0, none⟩, grownCap w (n + m) cap el, w.drew.alloc (.cells (xs ++ ys ++ List.replicate (grownCap w (n + m) cap el - (n + m)) z).toArray el), ?_, ?_⟩
    · have hzr : Builtin.zeroCells #[z] (grownCap w (n + m) cap el - (n + m)) = (List.replicate (grownCap w (n + m) cap el - (n + m)) z).toArray := by
        apply Array.ext
        · simp [Builtin.zeroCells]
        · intro j h1 h2; simp [Builtin.zeroCells, Nat.mod_one]
      simp only [grownCap] at hzr ⊢
      simp [Builtin.append_, run_underlying hT, run_underlying hdu, sizeOf, typeInfo, zeroValue, z1, z2, hsz, hzeros, hlen, hroom, h63, h48, Question.forced, hold, hnew, newRow, hzc, hzr]
      congr 2
      apply Array.ext'
      simp
    · intro r ho
      refine Own.new_osl (by simp [l1, hm]) hg hgm ?_ ?_ hall (ho.tail.drew)
      · simp [l1, hm]; omega
      · rw [List.take_append_of_le_length (by simp [l1, hm])]
        exact List.take_of_length_le (by simp [l1, hm])
end
end Go.Proofs.YtbglphpinhjfeaaGreatDoor
