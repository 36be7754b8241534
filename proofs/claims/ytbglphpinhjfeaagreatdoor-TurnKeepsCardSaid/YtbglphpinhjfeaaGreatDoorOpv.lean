/- More operations as rules: division, remainder, shifts, numbers of every kind, values told in another way. -/
import Derived.Test.YtbglphpinhjfeaaGreatDoorAny
namespace Go.Proofs.YtbglphpinhjfeaaGreatDoor
open Go Go.RowKit
set_option linter.unusedVariables false
set_option linter.unusedSimpArgs false
section
variable {P : Program} {N : Nat} {w0 : World} {e : Env} {cs : List SProp} {ty : TypeId}
theorem Qt.cast {o : Op} {v v' : Value} (h : Qt P N w0 e cs o ty v) (hv : v = v') : Qt P N w0 e cs o ty v' := hv ▸ h
theorem Qt.addk {x y : Operand} {t t' : TypeId} {k : IntKind} {i j : Int} (hx : evE e x = some (.int k i)) (hy : evE e y = some (.int k j)) (hw : k.wrap (i + j) = i + j) : Qt P N w0 e cs (.binOp .add t x y t') ty (.int k (i + j)) := by
  have := Qt.add (P := P) (N := N) (w0 := w0) (cs := cs) (ty := ty) (t := t) (t' := t') hx hy
  rwa [hw] at this
theorem Qt.subk {x y : Operand} {t t' : TypeId} {k : IntKind} {i j : Int} (hx : evE e x = some (.int k i)) (hy : evE e y = some (.int k j)) (hw : k.wrap (i - j) = i - j) : Qt P N w0 e cs (.binOp .sub t x y t') ty (.int k (i - j)) := by
  have := Qt.sub (P := P) (N := N) (w0 := w0) (cs := cs) (ty := ty) (t := t) (t' := t') hx hy
  rwa [hw] at this
theorem Qt.mulk {x y : Operand} {t t' : TypeId} {k : IntKind} {i j : Int} (hx : evE e x = some (.int k i)) (hy : evE e y = some (.int k j)) (hw : k.wrap (i * j) = i * j) : Qt P N w0 e cs (.binOp .mul t x y t') ty (.int k (i * j)) := by
  have := Qt.mul (P := P) (N := N) (w0 := w0) (cs := cs) (ty := ty) (t := t) (t' := t') hx hy
  rwa [hw] at this
theorem Qt.quo {x y : Operand} {t t' : TypeId} {k : IntKind} {i j : Int} (hx : evE e x = some (.int k i)) (hy : evE e y = some (.int k j)) (hj : j ≠ 0) : Qt P N w0 e cs (.binOp .quo t x y t') ty (.int k (k.wrap (i.tdiv j))) := by
  intro a w he ho o' h1 h2
  simp only [execOp, h1, he.ev hx, he.ev hy]
  simp [eqGuard, binOp, Op.intDiv, hj]
theorem Qt.rem {x y : Operand} {t t' : TypeId} {k : IntKind} {i j : Int} (hx : evE e x = some (.int k i)) (hy : evE e y = some (.int k j)) (hj : j ≠ 0) : Qt P N w0 e cs (.binOp .rem t x y t') ty (.int k (i.tmod j)) := by
  intro a w he ho o' h1 h2
  simp only [execOp, h1, he.ev hx, he.ev hy]
  simp [eqGuard, binOp, Op.intDiv, hj]
theorem Qt.quoP {x y : Operand} {t t' : TypeId} {k : IntKind} {i j : Int} (hx : evE e x = some (.int k i)) (hy : evE e y = some (.int k j)) (hi : 0 ≤ i) (hj : 0 < j) (hw : k.wrap (i / j) = i / j) : Qt P N w0 e cs (.binOp .quo t x y t') ty (.int k (i / j)) := by
  have := Qt.quo (P := P) (N := N) (w0 := w0) (cs := cs) (ty := ty) (t := t) (t' := t') hx hy (by omega)
  rwa [Int.tdiv_eq_ediv_of_nonneg hi, hw] at this
theorem Qt.remP {x y : Operand} {t t' : TypeId} {k : IntKind} {i j : Int} (hx : evE e x = some (.int k i)) (hy : evE e y = some (.int k j)) (hi : 0 ≤ i) (hj : 0 < j) : Qt P N w0 e cs (.binOp .rem t x y t') ty (.int k (i % j)) := by
  have := Qt.rem (P := P) (N := N) (w0 := w0) (cs := cs) (ty := ty) (t := t) (t' := t') hx hy (by omega)
  rwa [Int.tmod_eq_emod_of_nonneg hi] at this
theorem Qt.shl {x y : Operand} {t t' : TypeId} {k k' : IntKind} {i j : Int} (hx : evE e x = some (.int k i)) (hy : evE e y = some (.int k' j)) (h0 : 0 ≤ j) : Qt P N w0 e cs (.binOp .shl t x y t') ty (.int k (k.wrap (i * 2 ^ (min j.toNat k.bits)))) := by
  intro a w he ho o' h1 h2
  simp only [execOp, h1, he.ev hx, he.ev hy]
  simp [eqGuard, binOp, Op.shift, show ¬ j < 0 by omega]
theorem Qt.shr {x y : Operand} {t t' : TypeId} {k k' : IntKind} {i j : Int} (hx : evE e x = some (.int k i)) (hy : evE e y = some (.int k' j)) (h0 : 0 ≤ j) : Qt P N w0 e cs (.binOp .shr t x y t') ty (.int k (i.fdiv (2 ^ (min j.toNat k.bits)))) := by
  intro a w he ho o' h1 h2
  simp only [execOp, h1, he.ev hx, he.ev hy]
  simp [eqGuard, binOp, Op.shift, show ¬ j < 0 by omega]
theorem Qt.neg {x : Operand} {t : TypeId} {k : IntKind} {i : Int} (hx : evE e x = some (.int k i)) (hw : k.wrap (0 - i) = 0 - i) : Qt P N w0 e cs (.unOp .neg t x) ty (.int k (0 - i)) := by
  intro a w he ho o' h1 h2
  simp only [execOp, h1, he.ev hx]
  simp [Op.unary, Op.intArith]
  simpa using hw
theorem Qt.conv_k {x : Operand} {s d sz by_ : Nat} {si : TI} {k k' : IntKind} {i : Int} (hx : evE e x = some (.int k i)) (hS : TOk P s si) (hD : TOk P d ⟨.int k', sz, by_⟩) (hw : k'.wrap i = i) : Qt P N w0 e cs (.convert s d x) ty (.int k' i) := by
  have := Qt.conv_int (N := N) (w0 := w0) (cs := cs) (ty := ty) hx hS hD
  rwa [hw] at this
theorem Qt.andk {x y : Operand} {t t' : TypeId} {k : IntKind} {i j : Int} (hx : evE e x = some (.int k i)) (hy : evE e y = some (.int k j)) : Qt P N w0 e cs (.binOp .and t x y t') ty (.int k (k.wrap ((BitVec.ofInt k.bits i &&& BitVec.ofInt k.bits j).toNat : Int))) := by
  intro a w he ho o' h1 h2
  simp only [execOp, h1, he.ev hx, he.ev hy]
  simp [eqGuard, binOp, Op.intBits]
theorem Qt.ork {x y : Operand} {t t' : TypeId} {k : IntKind} {i j : Int} (hx : evE e x = some (.int k i)) (hy : evE e y = some (.int k j)) : Qt P N w0 e cs (.binOp .or t x y t') ty (.int k (k.wrap ((BitVec.ofInt k.bits i ||| BitVec.ofInt k.bits j).toNat : Int))) := by
  intro a w he ho o' h1 h2
  simp only [execOp, h1, he.ev hx, he.ev hy]
  simp [eqGuard, binOp, Op.intBits]
theorem Qt.xork {x y : Operand} {t t' : TypeId} {k : IntKind} {i j : Int} (hx : evE e x = some (.int k i)) (hy : evE e y = some (.int k j)) : Qt P N w0 e cs (.binOp .xor t x y t') ty (.int k (k.wrap ((BitVec.ofInt k.bits i ^^^ BitVec.ofInt k.bits j).toNat : Int))) := by
  intro a w he ho o' h1 h2
  simp only [execOp, h1, he.ev hx, he.ev hy]
  simp [eqGuard, binOp, Op.intBits]
/-- A byte as it is told in lists of bytes. -/
theorem u8_of {n : Int} (h0 : 0 ≤ n) (h1 : n ≤ 255) : Value.int .u8 n = u8v (UInt8.ofNat n.toNat) := by
  have : ((UInt8.ofNat n.toNat).toNat : Int) = n := by simp only [UInt8.toNat_ofNat']; omega
  simp only [u8v, this]
/-! ### Arrays -/
def fillA (sz : Nat) : List Value → List (Nat × Value) → Option (List Value)
  | cells, [] => some cells
  | cells, (i, v) :: rest => bif (Nat.beq v.cells.toList.length sz && Nat.ble (i * sz + sz) cells.length) then fillA sz (setL cells (i * sz) v.cells.toList) rest else none
theorem fillA_ok {sz : Nat} : ∀ (parts : List (Nat × Value)) (cells r : List Value), fillA sz cells parts = some r → Instr.fill (fun i => some (i * sz, sz)) cells.toArray parts = some r.toArray
  | [], cells, r, h => by simp [fillA] at h; simp [Instr.fill, h]
  | (i, v) :: rest, cells, r, h => by
    simp only [fillA] at h
    cases hc : (Nat.beq v.cells.toList.length sz && Nat.ble (i * sz + sz) cells.length) with
    | false => rw [hc] at h; simp at h
    | true =>
      rw [hc] at h
      simp only [cond_true] at h
      simp only [Bool.and_eq_true, Nat.beq_eq, Nat.ble_eq] at hc
      have h1 : v.cells.size = sz := by simpa using hc.1
      have ih := fillA_ok rest _ r h
      simp only [Instr.fill]
      rw [if_neg (by simp [h1]; exact hc.2)]
      rw [← ih]
      congr 1
      rw [← Array.foldl_toList, Array.toList_zipIdx, foldl_setL v.cells.toList cells.toArray (i * sz) 0]
      simp
theorem Qt.build_arr {t el n sz by_ : Nat} {ei : TI} {z r : List Value} {ps : List (Nat × Operand)} {vs : List (Nat × Value)} (hT : TOk P t ⟨.array n el, sz, by_⟩) (hE : TOk P el ei) (hZ : ZOk P t z) (hp : partsE e ps = some vs) (hr : fillA ei.size z vs = some r) :
    Qt P N w0 e cs (.build t ps.toArray) ty (.agg r.toArray) := by
  intro a w he ho o' g1 g2
  simp only [execOp, g1]
  obtain ⟨i, v, z1, z2, z3, z4⟩ := hZ.ok
  obtain ⟨ii, h1, h2, _⟩ := hE.inf
  have hb : P.built t (ps.toArray.map fun (i, x) => (i, a.eval x)).toList = some r.toArray := by
    simp only [Program.built, z1, hT.array, z2, h1, h2]
    have := fillA_ok (sz := ei.size) vs z r hr
    rw [← z3] at this
    simpa [he.parts hp] using this
  have h3 := run_build (P := P) w t _ _ hb
  simp only [Sem.run_bind, Sem.run_pure, h3, Result.andThen_ok]
theorem Qt.slice_arr {x : Operand} {t el n sz by_ b o : Nat} {ei : TI} {lo hi : Option Operand} {l h : Int} (hx : evE e x = some (.pointer (some ⟨b, o, none⟩))) (hT : TOk P t ⟨.array n el, sz, by_⟩) (hE : TOk P el ei) (hlo : boundE e lo 0 = some l) (hhi : boundE e hi n = some h) (h0 : 0 ≤ l) (h1 : l ≤ h) (h2 : h ≤ n) :
    Qt P N w0 e cs (.slice t x lo hi none) ty (.slice (some (if n = l.toNat then ⟨b, o, none⟩ else ⟨b, o + l.toNat * ei.size, none⟩)) (h.toNat - l.toNat) (n - l.toNat)) := by
  intro a w he ho o' g1 g2
  have hb := run_sliceBounds (P := P) (isS := false) (cap := n) he hlo hhi (Nat.le_refl _) h0 h1 h2 w
  simp only [execOp, g1, he.ev hx]
  simp [Instr.sliceAt, Instr.sureAddr, run_underlying hT.array, run_sizeOf hE, hb, add_lit]
theorem Qt.index_arr {x y : Operand} {t el n sz by_ : Nat} {ei : TI} {vs : List Value} {i : Int} (d : Value) (hx : evE e x = some (.agg vs.toArray)) (hy : evE e y = some (.int .i64 i)) (hT : TOk P t ⟨.array n el, sz, by_⟩) (hE : TOk P el ei) (hg : ei.d.agg = false) (hs : ei.size = 1) (hv : vs.length = n) (h0 : 0 ≤ i) (h1 : i < n) :
    Qt P N w0 e cs (.index t x y) ty (vs.getD i.toNat d) := by
  intro a w he ho o' g1 g2
  simp only [execOp, g1, he.ev hx, he.ev hy]
  have hlt : i.toNat < vs.length := by omega
  simp [Instr.index, asIntOf, run_underlying hT.array, run_sizeOf hE, hs, h0, h1, part, run_isAgg hE, hg, hlt]
theorem Reads_blk {b : Nat} {cur xs : List Value} {bt : TypeId} {o n : Nat} (hm : blk b cur bt ∈ cs) (hx : (cur.drop o).take n = xs) (hl : xs.length = n) (hn : n ≤ maxLen) : Reads w0 cs (some ⟨b, o, none⟩) n n xs := by
  intro w ho
  refine ⟨hl, Nat.le_refl _, hn, (fun e => by cases e), fun j x hj => ?_⟩
  rw [sadr_lit, ho.blk_cell hm]
  rw [← hx] at hj
  rw [List.getElem?_take] at hj
  split at hj
  · rwa [List.getElem?_drop] at hj
  · cases hj
end
end Go.Proofs.YtbglphpinhjfeaaGreatDoor
