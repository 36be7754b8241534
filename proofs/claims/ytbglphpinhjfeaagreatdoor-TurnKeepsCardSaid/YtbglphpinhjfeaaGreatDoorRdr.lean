/- The readers of lines and of replies. -/
import Derived.Test.YtbglphpinhjfeaaGreatDoorBrg
namespace Go.Proofs.YtbglphpinhjfeaaGreatDoor
open Go Go.RowKit
set_option maxRecDepth 100000
set_option linter.unusedVariables false
set_option linter.unusedSimpArgs false
attribute [local irreducible] Go.wpList Go.Code.wp Go.Exit.then Go.Exit.inBlock Go.Exit.noGoto Ends blk osl oblk LoopI Own Spec
abbrev Bs := List UInt8
structure Pk where
  A : Option Addr
  n : Nat
  c : Nat
  l : Bs
abbrev slv (p : Pk) : Value := .slice p.A p.n p.c
theorem ba_eq (s : ByteArray) : (⟨⟨s.data.toList⟩⟩ : ByteArray) = s := by
  cases s with
  | mk d => cases d; rfl
abbrev ptr (b : Nat) : Value := .pointer (some ⟨b, 0, none⟩)
abbrev unit : Value := .tuple #[]
/-- A line that came: its kind and its text. -/
structure Ln where
  kind : Int
  text : Bs
abbrev Ln.v (l : Ln) : Value := .agg #[num l.kind, str l.text]
def oddB (b : Bs) : Bool := decide (0 ≤ Lib.indexByte b 0) || decide (0 ≤ Lib.indexByte b 13) || decide (0 ≤ Lib.indexByte b 10)
def lineOf (b : Bs) (most : Int) : Ln := if most < b.length + 2 then ⟨2, []⟩ else if oddB b then ⟨3, []⟩ else ⟨1, b⟩
end Go.Proofs.YtbglphpinhjfeaaGreatDoor
