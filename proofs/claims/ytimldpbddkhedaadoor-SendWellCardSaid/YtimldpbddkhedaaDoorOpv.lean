/- More operations as rules: division, remainder, shifts, numbers of every kind, values told in another way. -/
import Derived.Test.YtimldpbddkhedaaDoorAny
namespace Go.Proofs.YtimldpbddkhedaaDoor
open Go Go.RowKit
set_option linter.unusedVariables false
set_option linter.unusedSimpArgs false
section
variable {P : Program} {N : Nat} {w0 : World} {e : Env} {cs : List SProp} {ty : TypeId}
theorem Qt.cast {o : Op} {v v' : Value} (h : Qt P N w0 e cs o ty v) (hv : v = v') : Qt P N w0 e cs o ty v' := hv ▸ h
theorem Qt.addk {x y : Operand} {t t' : TypeId} {k : IntKind} {i j : Int} (hx : evE e x = some (.int k i)) (hy : evE e y = some (.int k j)) (hw : k.wrap (i + j) = i + j) : Qt P N w0 e cs (.binOp .add t x y t') ty (.int k (i + j)) := by
  have := Qt.add (P := P) (N := N) (w0 := w0) (cs := cs) (ty := ty) (t := t) (t' := t') hx hy
  rwa [hw] at this
theorem Qt.subk {x y : Operand} {t t' : TypeId} {k : IntKind} {i j : Int} (hx : evE e x = some (.int k i)) (hy : evE e y = some (.int k j)) (hw : k.wrap (i - j) = i - j) : Qt P N w0 e cs (.binOp .sub t x y t') ty (.int k (i - j)) := by
  have := Qt.sub (P := P) (N := N) (w0 := w0) (cs := cs) (ty := ty) (t := t) (t' := t') hx hy
  rwa [hw] at this
theorem Qt.mulk {x y : Operand} {t t' : TypeId} {k : IntKind} {i j : Int} (hx : evE e x = some (.int k i)) (hy : evE e y = some (.int k j)) (hw : k.wrap (i * j) = i * j) : Qt P N w0 e cs (.binOp .mul t x y t') ty (.int k (i * j)) := by
  have := Qt.mul (P := P) (N := N) (w0 := w0) (cs := cs) (ty := ty) (t := t) (t' := t') hx hy
  rwa [hw] at this
theorem Qt.quo {x y : Operand} {t t' : TypeId} {k : IntKind} {i j : Int} (hx : evE e x = some (.int k i)) (hy : evE e y = some (.int k j)) (hj : j ≠ 0) : Qt P N w0 e cs (.binOp .quo t x y t') ty (.int k (k.wrap (i.tdiv j))) := by
  intro a w he ho o' h1 h2
  simp only [execOp, h1, he.ev hx, he.ev hy]
  simp [eqGuard, binOp, Op.intDiv, hj]
theorem Qt.rem {x y : Operand} {t t' : TypeId} {k : IntKind} {i j : Int} (hx : evE e x = some (.int k i)) (hy : evE e y = some (.int k j)) (hj : j ≠ 0) : Qt P N w0 e cs (.binOp .rem t x y t') ty (.int k (i.tmod j)) := by
  intro a w he ho o' h1 h2
  simp only [execOp, h1, he.ev hx, he.ev hy]
  simp [eqGuard, binOp, Op.intDiv, hj]
theorem Qt.quoP {x y : Operand} {t t' : TypeId} {k : IntKind} {i j : Int} (hx : evE e x = some (.int k i)) (hy : evE e y = some (.int k j)) (hi : 0 ≤ i) (hj : 0 < j) (hw : k.wrap (i / j) = i / j) : Qt P N w0 e cs (.binOp .quo t x y t') ty (.int k (i / j)) := by
  have := Qt.quo (P := P) (N := N) (w0 := w0) (cs := cs) (ty := ty) (t := t) (t' := t') hx hy (by omega)
  rwa [Int.tdiv_eq_ediv_of_nonneg hi, hw] at this
theorem Qt.remP {x y : Operand} {t t' : TypeId} {k : IntKind} {i j : Int} (hx : evE e x = some (.int k i)) (hy : evE e y = some (.int k j)) (hi : 0 ≤ i) (hj : 0 < j) : Qt P N w0 e cs (.binOp .rem t x y t') ty (.int k (i % j)) := by
  have := Qt.rem (P := P) (N := N) (w0 := w0) (cs := cs) (ty := ty) (t := t) (t' := t') hx hy (by omega)
  rwa [Int.tmod_eq_emod_of_nonneg hi] at this
theorem Qt.shl {x y : Operand} {t t' : TypeId} {k k' : IntKind} {i j : Int} (hx : evE e x = some (.int k i)) (hy : evE e y = some (.int k' j)) (h0 : 0 ≤ j) : Qt P N w0 e cs (.binOp .shl t x y t') ty (.int k (k.wrap (i * 2 ^ (min j.toNat k.bits)))) := by
  intro a w he ho o' h1 h2
  simp only [execOp, h1, he.ev hx, he.ev hy]
  simp [eqGuard, binOp, Op.shift, show ¬ j < 0 by omega]
theorem Qt.shr {x y : Operand} {t t' : TypeId} {k k' : IntKind} {i j : Int} (hx : evE e x = some (.int k i)) (hy : evE e y = some (.int k' j)) (h0 : 0 ≤ j) : Qt P N w0 e cs (.binOp .shr t x y t') ty (.int k (i.fdiv (2 ^ (min j.toNat k.bits)))) := by
  intro a w he ho o' h1 h2
  simp only [execOp, h1, he.ev hx, he.ev hy]
  simp [eqGuard, binOp, Op.shift, show ¬ j < 0 by omega]
theorem Qt.neg {x : Operand} {t : TypeId} {k : IntKind} {i : Int} (hx : evE e x = some (.int k i)) (hw : k.wrap (0 - i) = 0 - i) : Qt P N w0 e cs (.unOp .neg t x) ty (.int k (0 - i)) := by
  intro a w he ho o' h1 h2
  simp only [execOp, h1, he.ev hx]
  simp [Op.unary, Op.intArith]
  simpa using hw
theorem Qt.conv_k {x : Operand} {s d sz by_ : Nat} {si : TI} {k k' : IntKind} {i : Int} (hx : evE e x = some (.int k i)) (hS : TOk P s si) (hD : TOk P d ⟨.int k', sz, by_⟩) (hw : k'.wrap i = i) : Qt P N w0 e cs (.convert s d x) ty (.int k' i) := by
  have := Qt.conv_int (N := N) (w0 := w0) (cs := cs) (ty := ty) hx hS hD
  rwa [hw] at this
theorem Qt.andk {x y : Operand} {t t' : TypeId} {k : IntKind} {i j : Int} (hx : evE e x = some (.int k i)) (hy : evE e y = some (.int k j)) : Qt P N w0 e cs (.binOp .and t x y t') ty (.int k (k.wrap ((BitVec.ofInt k.bits i &&& BitVec.ofInt k.bits j).toNat : Int))) := by
  intro a w he ho o' h1 h2
  simp only [execOp, h1, he.ev hx, he.ev hy]
  simp [eqGuard, binOp, Op.intBits]
theorem Qt.ork {x y : Operand} {t t' : TypeId} {k : IntKind} {i j : Int} (hx : evE e x = some (.int k i)) (hy : evE e y = some (.int k j)) : Qt P N w0 e cs (.binOp .or t x y t') ty (.int k (k.wrap ((BitVec.ofInt k.bits i ||| BitVec.ofInt k.bits j).toNat : Int))) := by
  intro a w he ho o' h1 h2
  simp only [execOp, h1, he.ev hx, he.ev hy]
  simp [eqGuard, binOp, Op.intBits]
theorem Qt.xork {x y : Operand} {t t' : TypeId} {k : IntKind} {i j : Int} (hx : evE e x = some (.int k i)) (hy : evE e y = some (.int k j)) : Qt P N w0 e cs (.binOp .xor t x y t') ty (.int k (k.wrap ((BitVec.ofInt k.bits i ^^^ BitVec.ofInt k.bits j).toNat : Int))) := by
  intro a w he ho o' h1 h2
  simp only [execOp, h1, he.ev hx, he.ev hy]
  simp [eqGuard, binOp, Op.intBits]
/-- A byte as it is told in lists of bytes. -/
theorem u8_of {n : Int} (h0 : 0 ≤ n) (h1 : n ≤ 255) : Value.int .u8 n = u8v (UInt8.ofNat n.toNat) := by
  have : ((UInt8.ofNat n.toNat).toNat : Int) = n := by simp only [UInt8.toNat_ofNat']; omega
  simp only [u8v, this]
end
end Go.Proofs.YtimldpbddkhedaaDoor
