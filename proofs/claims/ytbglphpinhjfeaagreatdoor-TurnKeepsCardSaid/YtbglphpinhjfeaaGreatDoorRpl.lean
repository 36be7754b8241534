/- The reader of replies: what its functions do. -/
import Derived.Test.YtbglphpinhjfeaaGreatDoorRdr
namespace Go.Proofs.YtbglphpinhjfeaaGreatDoor
open Go Go.RowKit
set_option maxRecDepth 100000
set_option linter.unusedVariables false
set_option linter.unusedSimpArgs false
attribute [local irreducible] Go.wpList Go.Code.wp Go.Exit.then Go.Exit.inBlock Go.Exit.noGoto Ends blk osl oblk LoopI Own Spec
def codeOk (n : Int) : Bool := decide (200 ≤ n) && decide (n ≤ 599)
def isDg (c : UInt8) : Bool := !(decide ((c.toNat : Int) < 48) || decide (57 < (c.toNat : Int)))
def dg (s : Bs) (k : Nat) : Int := ((s.getD k 0).toNat : Int) - 48
def code3 (s : Bs) : Int := (dg s 0 * 10 + dg s 1) * 10 + dg s 2
def digs (s : Bs) : Bool := isDg (s.getD 0 0) && isDg (s.getD 1 0) && isDg (s.getD 2 0)
structure Sp where
  n : Int
  more : Bool
  text : Bs
  ok : Bool
def splitL (l : Ln) : Sp :=
  if l.kind ≠ 1 ∨ l.text.length < 3 then ⟨0, false, [], false⟩
  else if digs l.text = false then ⟨0, false, [], false⟩
  else if l.text.length = 3 then ⟨code3 l.text, false, [], codeOk (code3 l.text)⟩
  else ⟨code3 l.text, ((l.text.getD 3 0).toNat : Int) == 45, l.text.drop 4, codeOk (code3 l.text) && (((l.text.getD 3 0).toNat : Int) == 32 || ((l.text.getD 3 0).toNat : Int) == 45)⟩
theorem isDg_range {c : UInt8} (h : isDg c = true) : 48 ≤ c.toNat ∧ c.toNat ≤ 57 := by
  simp [isDg] at h
  omega
theorem atoi3 (s : Bs) (h3 : 3 ≤ s.length) (hd : ∀ j, j < 3 → isDg (s.getD j 0) = true) : Lib.atoiAll (s.take 3) = .ok (code3 s) := by
  match s, h3 with
  | a :: b :: c :: r, _ =>
    have ha := isDg_range (hd 0 (by omega))
    have hb := isDg_range (hd 1 (by omega))
    have hc := isDg_range (hd 2 (by omega))
    simp only [List.getD_cons_zero, List.getD_cons_succ] at ha hb hc
    have e : (a :: b :: c :: r).take 3 = [a, b, c] := rfl
    rw [e]
    have h1 : ¬ (a.toNat = 43 ∨ a.toNat = 45) := by omega
    have h2 : ¬ (a.toNat = 45) := by omega
    simp only [Lib.atoiAll, if_neg h1]
    simp only [Lib.parseMag, Lib.parseUint10, List.cons_ne_nil, if_false, ha, hb, hc, and_self, if_true]
    rw [if_neg (by omega), if_neg (by omega), if_neg (by omega), if_neg (by omega), if_neg (by omega), if_neg (by omega)]
    simp only [h2, not_false_eq_true, true_and, false_and, if_false]
    rw [if_neg (by omega)]
    simp only [code3, dg, List.getD_cons_zero, List.getD_cons_succ]
    congr 1
    omega
theorem code3_range {s : Bs} (hd : ∀ j, j < 3 → isDg (s.getD j 0) = true) : 0 ≤ code3 s ∧ code3 s ≤ 999 := by
  have ha := isDg_range (hd 0 (by omega))
  have hb := isDg_range (hd 1 (by omega))
  have hc := isDg_range (hd 2 (by omega))
  simp only [code3, dg]
  omega
theorem digs_of {s : Bs} (hd : ∀ j, j < 3 → isDg (s.getD j 0) = true) : digs s = true := by
  simp only [digs, hd 0 (by omega), hd 1 (by omega), hd 2 (by omega), Bool.and_self]
theorem digs_not {s : Bs} {k : Nat} (hk : k < 3) (h : isDg (s.getD k 0) = false) : digs s = false := by
  simp only [digs]
  match k, hk with
  | 0, _ => simp only [h, Bool.false_and]
  | 1, _ => simp only [h, Bool.false_and, Bool.and_false]
  | 2, _ => simp only [h, Bool.and_false]
abbrev Sp.v (s : Sp) : Value := .tuple #[num s.n, bol s.more, str s.text, bol s.ok]
structure Rf where
  code : Int
  lines : List Bs
  rc : Int
  whole : Bool
  err : Int
def replyF (code : Int) (ls : List Bs) (s : Sp) : Rf :=
  if s.ok = false ∨ (0 < ls.length ∧ code ≠ s.n) then ⟨0, [], 0, false, 2⟩
  else if s.more = true then ⟨s.n, ls ++ [s.text], 0, false, 0⟩
  else ⟨0, [], s.n, true, 0⟩
end Go.Proofs.YtbglphpinhjfeaaGreatDoor
