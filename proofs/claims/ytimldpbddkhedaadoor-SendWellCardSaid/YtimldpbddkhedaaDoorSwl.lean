/- SendWell: where all is well, each target has 250, and the body goes as it should. -/
import Derived.Test.YtimldpbddkhedaaDoorStp
namespace Go.Proofs.YtimldpbddkhedaaDoor
open Go Go.RowKit
set_option maxRecDepth 100000
set_option linter.unusedVariables false
set_option linter.unusedSimpArgs false
attribute [local irreducible] Go.wpList Go.Code.wp Go.Exit.then Go.Exit.inBlock Go.Exit.noGoto Ends blk osl oblk LoopI Own Spec
abbrev w220 : Bs := [50, 50, 48, 32, 120, 13, 10]
abbrev w250a : Bs := [50, 53, 48, 45, 97, 13, 10, 50, 53, 48, 32, 98, 13, 10]
abbrev w250 : Bs := [50, 53, 48, 32, 111, 107, 13, 10]
abbrev w550 : Bs := [53, 53, 48, 32, 110, 111, 13, 10]
abbrev w354 : Bs := [51, 53, 52, 32, 103, 111, 13, 10]
def wRep (n k : Nat) : List Bs := [w220, w250a, w250] ++ (List.range n).map (fun i => if i = k then w550 else w250) ++ [w354, w250]
def wCds (n k i : Nat) : List Int := (List.range n).map fun j => if j < i ∧ j = k then 550 else 0
def wS (T : List Bs) (body : Bs) (st at_ : Int) (codes : List Int) (out : List Bs) : Cl := ⟨[104], [], T, body, [], 0, [], out, st, at_, codes, false⟩
def rcL (t : Bs) : Bs := [82, 67, 80, 84, 32, 84, 79, 58, 60] ++ t ++ [62] ++ [13, 10]
def wSt (T body : List Bs) (k : Nat) : Nat → Cl × Bs
  | 0 => (Cl.new [104] [] T body, [])
  | j + 1 => let d := (wSt T body k j).1.feed ((wRep T.length k).getD j []); ({ d with out := [] }, (wSt T body k j).2 ++ d.out.flatten)
theorem wSt_len (T body : List Bs) (k j : Nat) : ((wSt T body k j).2 ++ ((wSt T body k j).1.feed ((wRep T.length k).getD j [])).out.flatten).length = (wSt T body k (j + 1)).2.length := rfl
theorem wSt_mono (T body : List Bs) (k : Nat) : ∀ (d j : Nat), (wSt T body k j).2.length ≤ (wSt T body k (j + d)).2.length
  | 0, j => Nat.le_refl _
  | d + 1, j => Nat.le_trans (wSt_mono T body k d j) (by rw [← Nat.add_assoc, ← wSt_len, List.length_append]; omega)
theorem wSt_over {T body : List Bs} {k j : Nat} (ho : (wSt T body k j).1.over = true) (hn : (wSt T body k j).1.out = []) : wSt T body k (j + 1) = wSt T body k j := by
  have e : (wSt T body k j).1.feed ((wRep T.length k).getD j []) = (wSt T body k j).1 := by unfold Cl.feed; rw [if_pos ho]
  show ({ (wSt T body k j).1.feed ((wRep T.length k).getD j []) with out := [] }, (wSt T body k j).2 ++ ((wSt T body k j).1.feed ((wRep T.length k).getD j [])).out.flatten) = _
  rw [e, hn]
  generalize wSt T body k j = p at hn
  obtain ⟨c, s⟩ := p
  simp only at hn
  cases c; simp only at hn; subst hn; simp
theorem wSt_step {T body : List Bs} {k j : Nat} {c d : Cl} {s : Bs} (h : wSt T body k j = (c, s)) (hd : c.feed ((wRep T.length k).getD j []) = d) : wSt T body k (j + 1) = ({ d with out := [] }, s ++ d.out.flatten) := by
  show ({ (wSt T body k j).1.feed ((wRep T.length k).getD j []) with out := [] }, (wSt T body k j).2 ++ ((wSt T body k j).1.feed ((wRep T.length k).getD j [])).out.flatten) = _
  rw [h]
  simp only
  rw [hd]
section
variable (T : List Bs) (B : Bs) (cs : List Int)
theorem w220_feed (h : 0 < T.length) : (wS T B 0 0 cs []).feed w220 = wS T B 1 0 cs [[69, 72, 76, 79, 32, 104, 13, 10]] := by
  rw [feed_one (i := 5) (code := 220) (t := [120]) rfl rfl rfl rfl (by kernel_rfl) (by kernel_rfl) (by rfl)]
  rfl
theorem w250a_feed : (wS T B 1 0 cs []).feed w250a = wS T B 2 0 cs [[77, 65, 73, 76, 32, 70, 82, 79, 77, 58, 60, 62, 13, 10]] := by
  have e1 : splitL (lineOf (w250a.take 5) 512) = ⟨250, true, [97], true⟩ := by kernel_rfl
  have e2 : splitL (lineOf ((w250a.drop 7).take 5) 512) = ⟨250, false, [98], true⟩ := by kernel_rfl
  have c1 : crlf w250a = some 5 := by kernel_rfl
  have c2 : crlf (w250a.drop 7) = some 5 := by kernel_rfl
  have f1 : Cl.feed1 ⟨[104], [], T, B, w250a.drop 7, 0, [], [], 1, 0, cs, false⟩ (lineOf (w250a.take 5) 512) = ⟨[104], [], T, B, w250a.drop 7, 250, [[97]], [], 1, 0, cs, false⟩ := by unfold Cl.feed1; rw [e1]; rfl
  have f2 : Cl.feed1 ⟨[104], [], T, B, [], 250, [[97]], [], 1, 0, cs, false⟩ (lineOf ((w250a.drop 7).take 5) 512) = wS T B 2 0 cs [[77, 65, 73, 76, 32, 70, 82, 79, 77, 58, 60, 62, 13, 10]] := by unfold Cl.feed1; rw [e2]; rfl
  unfold Cl.feed
  rw [if_neg (by simp [wS]), fdRun_step (i := 5) rfl c1]
  show fdRun 14 (Cl.feed1 ⟨[104], [], T, B, w250a.drop 7, 0, [], [], 1, 0, cs, false⟩ (lineOf (w250a.take 5) 512)) = _
  rw [f1, fdRun_step (i := 5) rfl c2]
  show fdRun 13 (Cl.feed1 ⟨[104], [], T, B, [], 250, [[97]], [], 1, 0, cs, false⟩ (lineOf ((w250a.drop 7).take 5) 512)) = _
  rw [f2]
  exact fdRun_nil rfl _
theorem w250_feed2 : (wS T B 2 0 cs []).feed w250 = wS T B 3 0 cs [rcL (T.getD 0 [])] := by
  rw [feed_one (i := 6) (code := 250) (t := [111, 107]) rfl rfl rfl rfl (by kernel_rfl) (by kernel_rfl) (by rfl)]
  rfl
theorem wRcpt_feed (x : Bs) (code : Int) (t : Bs) (i : Nat) (hx : crlf x = some 6) (hs : splitL (lineOf (x.take 6) 512) = ⟨code, false, t, true⟩) (hd : x.drop 8 = []) :
    (wS T B 3 i cs []).feed x = ((wS T B 3 i cs []).t1 code).t2 := by
  rw [feed_one (i := 6) (code := code) (t := t) rfl rfl rfl rfl hx hs hd]
  rfl
theorem w354_feed (n : Int) : (wS T B 4 n cs []).feed w354 = wS T B 5 n cs [B] := by
  rw [feed_one (i := 6) (code := 354) (t := [103, 111]) rfl rfl rfl rfl (by kernel_rfl) (by kernel_rfl) (by rfl)]
  rfl
theorem w250_feed5 (n : Int) : (wS T B 5 n cs []).feed w250 = { wS T B 5 n (endC 250 cs) [[81, 85, 73, 84, 13, 10]] with over := true } := by
  rw [feed_one (i := 6) (code := 250) (t := [111, 107]) rfl rfl rfl rfl (by kernel_rfl) (by kernel_rfl) (by rfl)]
  rfl
end
theorem wCds_zero (n k : Nat) : wCds n k 0 = List.replicate n 0 := by
  unfold wCds
  simp [List.map_const']
theorem wCds_len (n k i : Nat) : (wCds n k i).length = n := by simp [wCds]
theorem wCds_set {n k i : Nat} (h : i < n) (hk : i = k) : (wCds n k i).set i 550 = wCds n k (i + 1) := by
  apply List.ext_getElem (by simp [wCds])
  intro j h1 h2
  simp only [List.length_set, wCds_len] at h1
  simp only [List.getElem_set, wCds, List.getElem_map, List.getElem_range]
  by_cases hij : i = j
  · rw [if_pos hij, if_pos (by omega)]
  · rw [if_neg hij]
    by_cases hh : j < i ∧ j = k
    · rw [if_pos hh, if_pos (by omega)]
    · rw [if_neg hh, if_neg (by omega)]
theorem wCds_keep {n k i : Nat} (hk : i ≠ k) : wCds n k i = wCds n k (i + 1) := by
  unfold wCds
  apply List.map_congr_left
  intro j _
  by_cases hh : j < i ∧ j = k
  · rw [if_pos hh, if_pos (by omega)]
  · rw [if_neg hh, if_neg (by omega)]
theorem wCds_zero_mem {n k : Nat} : (wCds n k n).contains 0 = decide (∃ j, j < n ∧ j ≠ k) := by
  by_cases h : ∃ j, j < n ∧ j ≠ k
  · rw [decide_eq_true h]
    obtain ⟨j, h1, h2⟩ := h
    simp only [List.contains_eq_mem, decide_eq_true_eq, wCds, List.mem_map, List.mem_range]
    exact ⟨j, h1, if_neg (by omega)⟩
  · rw [decide_eq_false h]
    simp only [List.contains_eq_mem, decide_eq_false_iff_not, wCds, List.mem_map, List.mem_range, not_exists, not_and]
    intro j hj
    have : j = k := by
      by_cases hjk : j = k
      · exact hjk
      · exact absurd ⟨j, hj, hjk⟩ h
    rw [if_pos ⟨hj, this⟩]
    simp
def wFin (n k : Nat) : List Int := (List.range n).map fun j => if j = k then 550 else 250
theorem wCds_fin (n k : Nat) : endC 250 (wCds n k n) = wFin n k := by
  unfold endC wCds wFin
  rw [List.map_map]
  apply List.map_congr_left
  intro j hj
  have := List.mem_range.1 hj
  simp only [Function.comp]
  by_cases h : j = k
  · subst h; simp [this]
  · simp [h]
theorem wRep_lo (n k : Nat) : (wRep n k).getD 0 [] = w220 ∧ (wRep n k).getD 1 [] = w250a ∧ (wRep n k).getD 2 [] = w250 := ⟨rfl, rfl, rfl⟩
theorem wRep_len (n k : Nat) : (wRep n k).length = n + 5 := by simp [wRep]
theorem wRep_mid {n k i : Nat} (h : i < n) : (wRep n k).getD (3 + i) [] = if i = k then w550 else w250 := by
  unfold wRep
  rw [List.append_assoc, List.getD_eq_getElem?_getD, List.getElem?_append_right (by simp <;> omega), List.getElem?_append_left (by simp <;> omega)]
  have : 3 + i - [w220, w250a, w250].length = i := by simp
  rw [this]
  simp [h]
theorem wRep_hi (n k : Nat) : (wRep n k).getD (3 + n) [] = w354 ∧ (wRep n k).getD (4 + n) [] = w250 := by
  have hl : ([w220, w250a, w250] ++ (List.range n).map (fun i => if i = k then w550 else w250)).length = n + 3 := by simp
  unfold wRep
  constructor
  · rw [List.getD_eq_getElem?_getD, List.getElem?_append_right (by rw [hl]; omega), hl, show 3 + n - (n + 3) = 0 by omega]; rfl
  · rw [List.getD_eq_getElem?_getD, List.getElem?_append_right (by rw [hl]; omega), hl, show 4 + n - (n + 3) = 1 by omega]; rfl
def wRc (T : List Bs) : Bs := (T.map rcL).flatten
theorem wRc_take {T : List Bs} {i : Nat} (h : i < T.length) : wRc (T.take (i + 1)) = wRc (T.take i) ++ rcL (T.getD i []) := by
  unfold wRc
  rw [List.take_succ_eq_append_getElem h, List.map_append, List.flatten_append]
  simp [List.getD_eq_getElem?_getD, h]
abbrev wPre : Bs := [69, 72, 76, 79, 32, 104, 13, 10, 77, 65, 73, 76, 32, 70, 82, 79, 77, 58, 60, 62, 13, 10]
theorem wNew {T body : List Bs} (h0 : 0 < T.length) (h1 : T.length ≤ 50) (hg : goodB body = true) (k : Nat) : Cl.new [104] [] T body = wS T (stuffB body ++ [46, 13, 10]) 0 0 (wCds T.length k 0) [] := by
  have e1 : stuffV body = (stuffB body ++ [46, 13, 10], 0) := by unfold stuffV; rw [if_pos hg]
  unfold Cl.new
  rw [e1, wCds_zero, if_neg (by intro h; rcases h with h | h | h; exact h rfl; omega; omega)]
  rfl
/-- Ahead of the replies to the targets. -/
theorem wSt3 {T body : List Bs} (h0 : 0 < T.length) (h1 : T.length ≤ 50) (hg : goodB body = true) (k : Nat) :
    wSt T body k 3 = (wS T (stuffB body ++ [46, 13, 10]) 3 0 (wCds T.length k 0) [], wPre ++ wRc (T.take 1)) := by
  obtain ⟨r0, r1, r2⟩ := wRep_lo T.length k
  have s0 : wSt T body k 0 = (wS T (stuffB body ++ [46, 13, 10]) 0 0 (wCds T.length k 0) [], []) := by rw [← wNew h0 h1 hg k]; rfl
  have s1 := wSt_step s0 ((congrArg (Cl.feed _) r0).trans (w220_feed _ _ _ h0))
  have s2 := wSt_step s1 ((congrArg (Cl.feed _) r1).trans (w250a_feed _ _ _))
  have s3 := wSt_step s2 ((congrArg (Cl.feed _) r2).trans (w250_feed2 _ _ _))
  rw [s3]
  have e : wRc (T.take 1) = rcL (T.getD 0 []) := by rw [wRc_take h0]; rfl
  rw [e]
  simp [wS, wPre]
/-- One target's reply. -/
theorem wTgt {T : List Bs} {B : Bs} {k i : Nat} (h : i < T.length) : (wS T B 3 i (wCds T.length k i) []).feed ((wRep T.length k).getD (3 + i) []) = (wS T B 3 ((i + 1 : Nat) : Int) (wCds T.length k (i + 1)) []).t2 := by
  rw [wRep_mid h]
  by_cases hk : i = k
  · rw [if_pos hk, wRcpt_feed T B _ w550 550 [110, 111] i (by kernel_rfl) (by kernel_rfl) (by rfl)]
    have e1 := wCds_set h hk
    rw [← e1]
    rfl
  · rw [if_neg hk, wRcpt_feed T B _ w250 250 [111, 107] i (by kernel_rfl) (by kernel_rfl) (by rfl)]
    rw [← wCds_keep hk]
    rfl
theorem wSt_mid {T body : List Bs} (h0 : 0 < T.length) (h1 : T.length ≤ 50) (hg : goodB body = true) (k : Nat) : ∀ i, i < T.length →
    wSt T body k (3 + i) = (wS T (stuffB body ++ [46, 13, 10]) 3 i (wCds T.length k i) [], wPre ++ wRc (T.take (i + 1)))
  | 0, _ => wSt3 h0 h1 hg k
  | i + 1, hi => by
    have h := wSt_step (wSt_mid h0 h1 hg k i (by omega)) (wTgt (by omega))
    rw [show 3 + (i + 1) = 3 + i + 1 by omega, h, wRc_take (i := i + 1) hi]
    have e : (wS T (stuffB body ++ [46, 13, 10]) 3 ((i + 1 : Nat) : Int) (wCds T.length k (i + 1)) []).t2 = wS T (stuffB body ++ [46, 13, 10]) 3 ((i + 1 : Nat) : Int) (wCds T.length k (i + 1)) [rcL (T.getD (i + 1) [])] := by
      unfold Cl.t2
      rw [if_pos (by show ((i + 1 : Nat) : Int) < (T.length : Int); omega)]
      rfl
    rw [e]
    simp [wS]
/-- All that goes. -/
def wWant (T body : List Bs) (k : Nat) : Bs := wPre ++ wRc T ++ (if 1 < T.length ∨ k ≠ 0 then [68, 65, 84, 65, 13, 10] ++ (stuffB body ++ [46, 13, 10]) else []) ++ [81, 85, 73, 84, 13, 10]
theorem wSt_fin {T body : List Bs} (h0 : 0 < T.length) (h1 : T.length ≤ 50) (hg : goodB body = true) (k : Nat) :
    (wSt T body k (T.length + 5)).2 = wWant T body k ∧ (wSt T body k (T.length + 5)).1.over = true ∧ (wSt T body k (T.length + 5)).1.codes = wFin T.length k ∧ (wSt T body k (T.length + 5)).1.out = [] := by
  obtain ⟨m, hm⟩ : ∃ m, T.length = m + 1 := ⟨T.length - 1, by omega⟩
  have hs := wSt_step (wSt_mid h0 h1 hg k m (by omega)) (wTgt (by omega))
  have ht : T.take (m + 1) = T := List.take_of_length_le (by omega)
  rw [ht] at hs
  obtain ⟨r3, r4⟩ := wRep_hi T.length k
  have hz := wCds_zero_mem (n := T.length) (k := k)
  by_cases hd : 1 < T.length ∨ k ≠ 0
  · have hex : ∃ j, j < T.length ∧ j ≠ k := by
      by_cases hk : k = 0
      · exact ⟨1, by omega, by omega⟩
      · exact ⟨0, by omega, fun h => hk h.symm⟩
    rw [decide_eq_true hex] at hz
    have e : (wS T (stuffB body ++ [46, 13, 10]) 3 ((m + 1 : Nat) : Int) (wCds T.length k (m + 1)) []).t2 = wS T (stuffB body ++ [46, 13, 10]) 4 ((m + 1 : Nat) : Int) (wCds T.length k T.length) [[68, 65, 84, 65, 13, 10]] := by
      unfold Cl.t2
      rw [if_neg (by show ¬ ((m + 1 : Nat) : Int) < (T.length : Int); omega), ← hm, if_pos (show (wS T (stuffB body ++ [46, 13, 10]) 3 _ (wCds T.length k T.length) []).codes.contains 0 = true from hz)]
      rfl
    rw [e] at hs
    have s4 := wSt_step hs ((congrArg (Cl.feed _) (by rw [show 3 + m + 1 = 3 + T.length by omega, r3])).trans (w354_feed _ _ _ _))
    have s5 := wSt_step s4 ((congrArg (Cl.feed _) (by rw [show 3 + m + 1 + 1 = 4 + T.length by omega, r4])).trans (w250_feed5 _ _ _ _))
    rw [show T.length + 5 = 3 + m + 1 + 1 + 1 by omega, s5]
    refine ⟨?_, rfl, wCds_fin _ _, rfl⟩
    unfold wWant
    rw [if_pos hd]
    simp [wS]
  · have hex : ¬ ∃ j, j < T.length ∧ j ≠ k := fun ⟨j, h3, h4⟩ => hd (by omega)
    rw [decide_eq_false hex] at hz
    have e : (wS T (stuffB body ++ [46, 13, 10]) 3 ((m + 1 : Nat) : Int) (wCds T.length k (m + 1)) []).t2 = { wS T (stuffB body ++ [46, 13, 10]) 3 ((m + 1 : Nat) : Int) (endC 0 (wCds T.length k T.length)) [[81, 85, 73, 84, 13, 10]] with over := true } := by
      unfold Cl.t2
      rw [if_neg (by show ¬ ((m + 1 : Nat) : Int) < (T.length : Int); omega), ← hm, if_neg (by show ¬ (wCds T.length k T.length).contains 0 = true; rw [hz]; simp)]
      rfl
    rw [e] at hs
    have s4 := wSt_over (T := T) (body := body) (k := k) (j := 3 + m + 1) (by rw [hs]) (by rw [hs])
    have s5 := wSt_over (T := T) (body := body) (k := k) (j := 3 + m + 1 + 1) (by rw [s4, hs]) (by rw [s4, hs])
    rw [show T.length + 5 = 3 + m + 1 + 1 + 1 by omega, s5, s4, hs]
    refine ⟨?_, rfl, ?_, rfl⟩
    · unfold wWant
      rw [if_neg hd]
      simp [wS]
    · show endC 0 (wCds T.length k T.length) = wFin T.length k
      have h1 : T.length = 1 := by omega
      have h2 : k = 0 := by omega
      rw [h1, h2]
      rfl
theorem wRep_sm (n k : Nat) : ∀ s ∈ wRep n k, s.length ≤ 14 := by
  intro s hs
  unfold wRep at hs
  rcases List.mem_append.1 hs with hs | hs
  · rcases List.mem_append.1 hs with hs | hs
    · have : ∀ s ∈ [w220, w250a, w250], s.length ≤ 14 := by simp
      exact this s hs
    · obtain ⟨i, _, rfl⟩ := List.mem_map.1 hs
      split <;> simp
  · have : ∀ s ∈ [w354, w250], s.length ≤ 14 := by simp
    exact this s hs
theorem wSt_pv {T body : List Bs} (h1 : T.length ≤ 50) (ht : ∀ t ∈ T, Sm t) (hb : body.length ≤ 100000000000000) (k : Nat) : ∀ j, j ≤ (wRep T.length k).length → Pv T body (14 * j) (wSt T body k j).1 ∧ (wSt T body k j).1.out = []
  | 0, _ => new_pv (host := [104]) (frm := []) (by simp [Sm]) (by simp [Sm]) ht (by omega) hb
  | j + 1, h => by
    have ⟨p1, p2⟩ := wSt_pv h1 ht hb k j (by omega)
    have h2 := feed_pv p1 ((wRep T.length k).getD j [])
    have h3 : ((wRep T.length k).getD j []).length ≤ 14 := wRep_sm T.length k _ (by rw [List.getD_eq_getElem?_getD, List.getElem?_eq_getElem (show j < (wRep T.length k).length by omega)]; simp)
    refine ⟨⟨Cl.out_inv h2.inv, h2.tg, h2.bd, h2.rc, ?_, ?_⟩, rfl⟩
    · show 0 + ((wSt T body k j).1.feed ((wRep T.length k).getD j [])).wait.length ≤ _
      have := h2.o; omega
    · show ((wSt T body k j).1.feed ((wRep T.length k).getD j [])).rlines.length + ((wSt T body k j).1.feed ((wRep T.length k).getD j [])).wait.length ≤ _
      have := h2.r; omega
theorem wRc_len {T : List Bs} (h : ∀ t ∈ T, Sm t) : (wRc T).length ≤ 1000000000000012 * T.length := by
  induction T with
  | nil => simp [wRc]
  | cons t T ih =>
    have h1 := ih fun s hs => h s (.tail _ hs)
    have h2 := h t (.head _)
    have h3 : wRc (t :: T) = rcL t ++ wRc T := by simp [wRc]
    rw [h3, List.length_append, List.length_cons, Nat.mul_succ]
    have h4 : (rcL t).length = t.length + 12 := by simp [rcL]
    simp only [Sm] at h2
    omega
def wMid (n k i : Nat) : List Bs := [w220, w250a, w250] ++ (List.range i).map (fun i => if i = k then w550 else w250)
theorem wMid_succ (n k i : Nat) : wMid n k (i + 1) = wMid n k i ++ [if i = k then w550 else w250] := by
  simp [wMid, List.range_succ]
theorem spec_well (w0 : World) (hG : Gl w0) (targets body : List Bs) (bad : Int) {tA bA : Option Addr} {tn tc bn bc : Nat} (cs : List SProp) (ht : Reads w0 cs tA tn tc (targets.map str)) (hb : Reads w0 cs bA bn bc (body.map str))
    (hts : ∀ t ∈ targets, Sm t) (hbs : ∀ s ∈ body, Sm s) (hbl : body.length ≤ 100000000000000) (h0 : 0 ≤ bad) (h1 : bad ≤ 255) :
    Spec Tryd.prog w0 4 [.slice tA tn tc, .slice bA bn bc, .int .u8 bad] cs (fun v _ => v = bol true) := by
  refine Spec.of_body Tryd.func4 rfl Tryd.ntmps4 rfl ?_
  refine H.fact (fun w hw => (ht w hw).facts) fun ⟨tl1, tl2, tl3, tl4⟩ => ?_
  refine H.fact (fun w hw => (hb w hw).facts) fun ⟨bl1, bl2, bl3, bl4⟩ => ?_
  simp only [List.length_map] at tl1 bl1
  subst tl1
  refine H.seq ?_
  refine H.region ?_
  refine Ops.quiet (Qt.assign rfl) rfl ?_
  refine Ops.nil ?_
  refine H.then_normal ?_
  refine H.seq ?_
  refine H.seq ?_
  refine H.region ?_
  refine Ops.quiet (Qt.move rfl) rfl ?_
  refine Ops.quiet (Qt.len_sl (ats := #[]) rfl (tk rfl)) rfl ?_
  refine Ops.quiet (Qt.eql rfl rfl) rfl ?_
  refine Ops.quiet (Qt.move rfl) rfl ?_
  refine Ops.guard rfl rfl rfl rfl (fun g22 => ?_) (fun g22 => ?_)
  · have g22' := g22
    try simp only [decide_eq_true_eq, decide_eq_false_iff_not, beq_iff_eq, beq_eq_false_iff_ne, bne_iff_ne, ne_eq, Bool.not_eq_true', Bool.not_eq_false', bne_eq_false_iff_eq, Bool.not_eq_eq_eq_not, Bool.not_true, Bool.not_false] at g22'
    refine Ops.quiet (Qt.move rfl) rfl ?_
    refine Ops.guard_yes rfl rfl rfl rfl g22 ?_
    refine Ops.quiet (Qt.len_sl (ats := #[]) rfl (tk rfl)) rfl ?_
    refine Ops.guard_yes rfl rfl rfl rfl g22 ?_
    refine Ops.quiet (Qt.gtr rfl rfl) rfl ?_
    refine Ops.quiet (Qt.pick_f rfl rfl g22) rfl ?_
    refine Ops.quiet (Qt.move rfl) rfl ?_
    refine Ops.guard rfl rfl rfl rfl (fun g27 => ?_) (fun g27 => ?_)
    · have g27' := g27
      try simp only [decide_eq_true_eq, decide_eq_false_iff_not, beq_iff_eq, beq_eq_false_iff_ne, bne_iff_ne, ne_eq, Bool.not_eq_true', Bool.not_eq_false', bne_eq_false_iff_eq, Bool.not_eq_eq_eq_not, Bool.not_true, Bool.not_false] at g27'
      refine Ops.quiet (Qt.move rfl) rfl ?_
      refine Ops.guard_yes rfl rfl rfl rfl g27 ?_
      refine Ops.eff (Ef.call (fok fab_all rfl Tryd.func17 rfl) rfl (spec_rgood w0 body _ (by repeat (first | assumption | exact Reads.of_head | apply Reads.tail)) hbl (fun s hs => by have := hbs s hs; simp only [Sm] at this; omega))) rfl ?_
      rintro _ c0 ⟨rfl, h0⟩; subst c0
      refine Ops.guard_yes rfl rfl rfl rfl g27 ?_
      refine Ops.quiet (Qt.not rfl) rfl ?_
      refine Ops.quiet (Qt.pick_f rfl rfl g27) rfl ?_
      refine Ops.nil ?_
      refine H.then_normal ?_
      refine H.cond rfl (fun h31 => ?_) (fun h31 => ?_)
      · try simp only [decide_eq_true_eq, decide_eq_false_iff_not, beq_iff_eq, beq_eq_false_iff_ne, bne_iff_ne, ne_eq, Bool.not_eq_true', Bool.not_eq_false', bne_eq_false_iff_eq, Bool.not_eq_eq_eq_not, Bool.not_true, Bool.not_false] at h31
        refine H.seq ?_
        refine H.region ?_
        refine Ops.eff (Ef.call (fok fab_all rfl Tryd.func7 rfl) rfl (spec_answers w0 hG _)) rfl ?_
        rintro _ c0 ⟨rfl, h0⟩; subst c0
        refine Ops.quiet (Qt.assign rfl) rfl ?_
        refine Ops.nil ?_
        refine H.then_normal ?_
        refine H.ret ?_
        refine H.then_ret ?_
        refine (H.ends rfl (.cons (.tmp rfl) .nil) ?_)
        rfl
      · try simp only [decide_eq_true_eq, decide_eq_false_iff_not, beq_iff_eq, beq_eq_false_iff_ne, bne_iff_ne, ne_eq, Bool.not_eq_true', Bool.not_eq_false', bne_eq_false_iff_eq, Bool.not_eq_eq_eq_not, Bool.not_true, Bool.not_false] at h31
        refine H.skip ?_
        refine H.then_normal ?_
        refine H.seq ?_
        have hg : goodB body = true := by simpa using h31
        have htn : 0 < targets.length := by omega
        have hsz := sizeL_tot body
        have hg2 : sizeL body ≤ 65536 := by
          simp only [goodB, Bool.and_eq_true, decide_eq_true_eq] at hg
          exact hg.2
        obtain ⟨k, hk⟩ : ∃ k : Nat, (k : Int) = bad % (2 * (targets.length : Int)) := ⟨(bad % (2 * (targets.length : Int))).toNat, by have := Int.emod_nonneg bad (show (2 * (targets.length : Int)) ≠ 0 by omega); omega⟩
        refine H.region ?_
        refine Ops.quiet (Qt.move rfl) rfl ?_
        refine Ops.quiet (Qt.move rfl) rfl ?_
        refine Ops.eff (Ef.call (fok fab_all rfl Tryd.func8 rfl) rfl (spec_new w0 [104] [] targets body _ (by repeat (first | assumption | exact Reads.of_head | apply Reads.tail)) (by repeat (first | assumption | exact Reads.of_head | apply Reads.tail)) (by omega) (by omega))) rfl ?_
        rintro _ _ ⟨b, rfl, rfl⟩
        refine Ops.quiet (Qt.assign rfl) rfl ?_
        refine Ops.nil ?_
        refine H.then_normal ?_
        refine H.seq ?_
        refine H.region ?_
        refine Ops.quiet (Qt.assign rfl) rfl ?_
        refine Ops.nil ?_
        refine H.then_normal ?_
        refine H.seq ?_
        refine H.region ?_
        refine Ops.eff (Ef.buildSlice (tk rfl) (tk rfl) rfl (zk rfl) rfl rfl rfl (by repeat (first | exact ones_nil | refine ones_cons rfl ?_))) rfl ?_
        rintro _ _ ⟨A36, c36, rfl, rfl⟩
        refine Ops.quiet (Qt.assign rfl) rfl ?_
        refine Ops.nil ?_
        refine H.then_normal ?_
        refine H.seq ?_
        refine H.region ?_
        refine Ops.quiet (Qt.move rfl) rfl ?_
        refine Ops.quiet (Qt.conv_k rfl (tk rfl) (tk rfl) (by first | exact IntWalk.i64_in _ (by omega) | exact IntWalk.u8_in _ (by omega) | exact IntWalk.u64_in _ (by omega) | exact IntWalk.u32_in _ (by omega) | exact IntWalk.u16_in _ (by omega))) rfl ?_
        refine Ops.quiet (Qt.move rfl) rfl ?_
        refine Ops.quiet (Qt.len_sl (ats := #[]) rfl (tk rfl)) rfl ?_
        refine Ops.quiet (Qt.mulk rfl rfl (by first | exact IntWalk.i64_in _ (by omega) | exact IntWalk.u8_in _ (by omega) | exact IntWalk.u64_in _ (by omega) | exact IntWalk.u32_in _ (by omega) | exact IntWalk.u16_in _ (by omega))) rfl ?_
        refine Ops.quiet (Qt.remP rfl rfl (by omega) (by omega)) rfl ?_
        refine Ops.quiet (Qt.assign rfl) rfl ?_
        refine Ops.nil ?_
        refine H.then_normal ?_
        refine H.seq ?_
        refine H.seq ?_
        rw [← hk]
        refine H.region ?_
        refine Ops.quiet (Qt.assign rfl) rfl ?_
        refine Ops.nil ?_
        refine H.then_normal ?_
        refine H.block ?_
        refine H.loop (X := Nat × Option Addr × Nat) (fun p => [(0, .slice tA targets.length tc), (1, .slice bA bn bc), (7, ptr b), (8, str []), (9, .slice p.2.1 (3 + p.1) p.2.2), (10, num k), (11, num p.1)]) (fun p => osl 9 p.2.1 (3 + p.1) p.2.2 ((wMid targets.length k p.1).map str) :: client b (Cl.new [104] [] targets body) :: cs) (fun p => p.1 ≤ targets.length) (fun p => targets.length - p.1) (0, A36, c36) (Nat.zero_le _) (by repeat (first | exact trivial | refine ⟨rfl, ?_⟩)) (fun w hw => hw) ?_
        rintro ⟨i, lA, lc⟩ hi
        simp only at hi
        change H _ _ [(0, .slice tA targets.length tc), (1, .slice bA bn bc), (7, ptr b), (8, str []), (9, .slice lA (3 + i) lc), (10, num k), (11, num (i : Int))] (osl 9 lA (3 + i) lc ((wMid targets.length k i).map str) :: client b (Cl.new [104] [] targets body) :: cs) _
        refine H.seq ?_
        refine H.seq ?_
        refine H.region ?_
        refine Ops.quiet (Qt.move rfl) rfl ?_
        refine Ops.quiet (Qt.move rfl) rfl ?_
        refine Ops.quiet (Qt.len_sl (ats := #[]) rfl (tk rfl)) rfl ?_
        refine Ops.quiet (Qt.lss rfl rfl) rfl ?_
        refine Ops.nil ?_
        refine H.then_normal ?_
        refine H.cond rfl (fun h46 => ?_) (fun h46 => ?_)
        · try simp only [decide_eq_true_eq, decide_eq_false_iff_not, beq_iff_eq, beq_eq_false_iff_ne, bne_iff_ne, ne_eq, Bool.not_eq_true', Bool.not_eq_false', bne_eq_false_iff_eq, Bool.not_eq_eq_eq_not, Bool.not_true, Bool.not_false] at h46
          refine H.skip ?_
          refine H.then_normal ?_
          refine H.seq ?_
          refine H.block ?_
          refine H.seq ?_
          refine H.region ?_
          refine Ops.quiet (Qt.move rfl) rfl ?_
          refine Ops.quiet (Qt.move rfl) rfl ?_
          refine Ops.quiet (Qt.eql rfl rfl) rfl ?_
          refine Ops.nil ?_
          refine H.then_normal ?_
          refine H.cond rfl (fun h51 => ?_) (fun h51 => ?_)
          · try simp only [decide_eq_true_eq, decide_eq_false_iff_not, beq_iff_eq, beq_eq_false_iff_ne, bne_iff_ne, ne_eq, Bool.not_eq_true', Bool.not_eq_false', bne_eq_false_iff_eq, Bool.not_eq_eq_eq_not, Bool.not_true, Bool.not_false] at h51
            refine H.region ?_
            refine Ops.quiet (Qt.move rfl) rfl ?_
            refine Ops.eff (Ef.buildSlice (tk rfl) (tk rfl) rfl (zk rfl) rfl rfl rfl (by repeat (first | exact ones_nil | refine ones_cons rfl ?_))) rfl ?_
            rintro _ _ ⟨A53, c53, rfl, rfl⟩
            refine Ops.eff (Ef.append1 (f := str) (l := wMid targets.length k i) (b := w550) rfl rfl (tk rfl) (tk rfl) rfl (zk rfl) (by repeat (first | assumption | exact Reads.of_head | apply Reads.tail)) (by intro _ _; repeat (first | exact Upd.head | apply Upd.tail)) (fun _ => rfl) (by dsimp only; omega) (by simp only [maxLen]; omega)) rfl ?_
            rintro _ _ ⟨A54, c54, rfl, rfl⟩
            refine Ops.quiet (Qt.assign rfl) rfl ?_
            refine Ops.nil ?_
            refine H.blk_normal ?_
            refine H.then_normal ?_
            refine H.region ?_
            refine Ops.quiet (Qt.move rfl) rfl ?_
            refine Ops.quiet (Qt.addk rfl rfl (by first | exact IntWalk.i64_in _ (by omega) | exact IntWalk.u8_in _ (by omega) | exact IntWalk.u64_in _ (by omega) | exact IntWalk.u32_in _ (by omega) | exact IntWalk.u16_in _ (by omega))) rfl ?_
            refine Ops.quiet (Qt.assign rfl) rfl ?_
            refine Ops.nil ?_
            refine H.then_normal ?_
            refine H.round (i + 1, A54, c54) (by show i + 1 ≤ targets.length; omega) (by simp only []; omega) (by repeat (first | exact trivial | refine ⟨rfl, ?_⟩)) (fun w hw => ?_)
            rw [wMid_succ, if_pos (by omega)]
            exact hw.tail
          · try simp only [decide_eq_true_eq, decide_eq_false_iff_not, beq_iff_eq, beq_eq_false_iff_ne, bne_iff_ne, ne_eq, Bool.not_eq_true', Bool.not_eq_false', bne_eq_false_iff_eq, Bool.not_eq_eq_eq_not, Bool.not_true, Bool.not_false] at h51
            refine H.region ?_
            refine Ops.quiet (Qt.move rfl) rfl ?_
            refine Ops.eff (Ef.buildSlice (tk rfl) (tk rfl) rfl (zk rfl) rfl rfl rfl (by repeat (first | exact ones_nil | refine ones_cons rfl ?_))) rfl ?_
            rintro _ _ ⟨A56, c56, rfl, rfl⟩
            refine Ops.eff (Ef.append1 (f := str) (l := wMid targets.length k i) (b := w250) rfl rfl (tk rfl) (tk rfl) rfl (zk rfl) (by repeat (first | assumption | exact Reads.of_head | apply Reads.tail)) (by intro _ _; repeat (first | exact Upd.head | apply Upd.tail)) (fun _ => rfl) (by dsimp only; omega) (by simp only [maxLen]; omega)) rfl ?_
            rintro _ _ ⟨A57, c57, rfl, rfl⟩
            refine Ops.quiet (Qt.assign rfl) rfl ?_
            refine Ops.nil ?_
            refine H.blk_normal ?_
            refine H.then_normal ?_
            refine H.region ?_
            refine Ops.quiet (Qt.move rfl) rfl ?_
            refine Ops.quiet (Qt.addk rfl rfl (by first | exact IntWalk.i64_in _ (by omega) | exact IntWalk.u8_in _ (by omega) | exact IntWalk.u64_in _ (by omega) | exact IntWalk.u32_in _ (by omega) | exact IntWalk.u16_in _ (by omega))) rfl ?_
            refine Ops.quiet (Qt.assign rfl) rfl ?_
            refine Ops.nil ?_
            refine H.then_normal ?_
            refine H.round (i + 1, A57, c57) (by show i + 1 ≤ targets.length; omega) (by simp only []; omega) (by repeat (first | exact trivial | refine ⟨rfl, ?_⟩)) (fun w hw => ?_)
            rw [wMid_succ, if_neg (by omega)]
            exact hw.tail
        · try simp only [decide_eq_true_eq, decide_eq_false_iff_not, beq_iff_eq, beq_eq_false_iff_ne, bne_iff_ne, ne_eq, Bool.not_eq_true', Bool.not_eq_false', bne_eq_false_iff_eq, Bool.not_eq_eq_eq_not, Bool.not_true, Bool.not_false] at h46
          refine H.exit ?_
          refine H.then_exit ?_
          refine H.then_exit ?_
          refine H.blk_hit ?_
          refine H.then_normal ?_
          refine H.seq ?_
          obtain rfl : i = targets.length := by omega
          refine H.region ?_
          refine Ops.quiet (Qt.move rfl) rfl ?_
          refine Ops.eff (Ef.buildSlice (tk rfl) (tk rfl) rfl (zk rfl) rfl rfl rfl (by repeat (first | exact ones_nil | refine ones_cons rfl ?_))) rfl ?_
          rintro _ _ ⟨A59, c59, rfl, rfl⟩
          refine Ops.eff (Ef.append2 (f := str) (l := wMid targets.length k targets.length) (l2 := [w354, w250]) rfl rfl (tk rfl) (tk rfl) rfl (zk rfl) (by repeat (first | assumption | exact Reads.of_head | apply Reads.tail)) (by intro _ _; repeat (first | exact Upd.head | apply Upd.tail)) (fun _ => rfl) (by dsimp only; omega) (by simp only [maxLen]; omega)) rfl ?_
          rintro _ _ ⟨rA, rc, rfl, rfl⟩
          refine Ops.quiet (Qt.assign rfl) rfl ?_
          refine Ops.nil ?_
          refine H.then_normal ?_
          refine H.seq ?_
          refine H.seq ?_
          obtain ⟨f1, f2, f3, f4⟩ := wSt_fin htn (by omega) hg k
          have hfl : (wSt targets body k (targets.length + 5)).2.length ≤ 1000000000000000000 := by
            have e1 := wRc_len hts
            have e2 := stuffB_len body
            have e3 : (wRc targets).length ≤ 1000000000000012 * 50 := Nat.le_trans e1 (Nat.mul_le_mul_left _ (by omega))
            rw [f1]
            unfold wWant
            simp only [List.length_append]
            split <;> simp only [List.length_append, List.length_cons, List.length_nil] <;> omega
          have hrl := wRep_len targets.length k
          refine H.conv (cs' := osl 9 rA (3 + targets.length + 2) rc ((wRep targets.length k).map str) :: client b (Cl.new [104] [] targets body) :: cs) (fun w hw => hw.tail) ?_
          refine H.region ?_
          refine Ops.quiet (Qt.assign rfl) rfl ?_
          refine Ops.nil ?_
          refine H.then_normal ?_
          refine H.block ?_
          refine H.loop (X := Nat) (fun j => [(0, .slice tA targets.length tc), (1, .slice bA bn bc), (7, ptr b), (8, str (wSt targets body k j).2), (9, .slice rA (3 + targets.length + 2) rc), (10, num k), (12, num j)]) (fun j => client b (wSt targets body k j).1 :: osl 9 rA (3 + targets.length + 2) rc ((wRep targets.length k).map str) :: cs) (fun j => j ≤ targets.length + 5) (fun j => targets.length + 5 - j) 0 (Nat.zero_le _) (by repeat (first | exact trivial | refine ⟨rfl, ?_⟩)) (fun w hw => hw.perm (.swap _ _ _)) ?_
          intro j hj
          obtain ⟨hpv, hou⟩ := wSt_pv (T := targets) (body := body) (by omega) hts hbl k j (by omega)
          have hpo := hpv.o
          have hpr := hpv.r
          refine H.seq ?_
          refine H.seq ?_
          refine H.region ?_
          refine Ops.quiet (Qt.move rfl) rfl ?_
          refine Ops.quiet (Qt.move rfl) rfl ?_
          refine Ops.quiet (Qt.len_sl (ats := #[]) rfl (tk rfl)) rfl ?_
          refine Ops.quiet (Qt.lss rfl rfl) rfl ?_
          refine Ops.nil ?_
          refine H.then_normal ?_
          refine H.cond rfl (fun h64 => ?_) (fun h64 => ?_)
          · try simp only [decide_eq_true_eq, decide_eq_false_iff_not, beq_iff_eq, beq_eq_false_iff_ne, bne_iff_ne, ne_eq, Bool.not_eq_true', Bool.not_eq_false', bne_eq_false_iff_eq, Bool.not_eq_eq_eq_not, Bool.not_true, Bool.not_false] at h64
            refine H.skip ?_
            refine H.then_normal ?_
            refine H.seq ?_
            refine H.block ?_
            refine H.seq ?_
            have hj2 : j < (wRep targets.length k).length := by omega
            have hj3 : ((j : Int).toNat) < (wRep targets.length k).length := hj2
            have hxl : ((wRep targets.length k).getD (j : Int).toNat []).length ≤ 14 := wRep_sm targets.length k _ (by show (wRep targets.length k).getD j [] ∈ _; rw [List.getD_eq_getElem?_getD, List.getElem?_eq_getElem hj2]; simp)
            obtain ⟨d, hd⟩ : ∃ d, d = (wSt targets body k j).1.feed ((wRep targets.length k).getD (j : Int).toNat []) := ⟨_, rfl⟩
            have hd1 : (wSt targets body k (j + 1)).1 = { d with out := [] } := by rw [hd]; rfl
            have hd2 : (wSt targets body k (j + 1)).2 = (wSt targets body k j).2 ++ d.out.flatten := by rw [hd]; rfl
            have hd3 : ((wSt targets body k j).2 ++ d.out.flatten).length ≤ 1000000000000000000 := by
              rw [← hd2]
              refine Nat.le_trans (wSt_mono targets body k (targets.length + 5 - (j + 1)) (j + 1)) ?_
              rw [show j + 1 + (targets.length + 5 - (j + 1)) = targets.length + 5 by omega]
              exact hfl
            have sF := fun (n : Nat) (A : Option Addr) (cap : Nat) (fr : List SProp) hr => spec_feed w0 hG b (wSt targets body k j).1 ((wRep targets.length k).getD (j : Int).toNat []) (A := A) (n := n) (cap := cap) fr hr hpv.inv (by omega) (by omega)
            rw [← hd] at sF
            refine H.region ?_
            refine Ops.quiet (Qt.move rfl) rfl ?_
            refine Ops.quiet (Qt.move rfl) rfl ?_
            refine Ops.quiet (Qt.move rfl) rfl ?_
            refine Ops.quiet (Qt.indexAddr rfl rfl (tk rfl) (tk rfl) rfl (by repeat (first | assumption | exact Reads.of_head | apply Reads.tail)) (by omega) (by omega)) rfl ?_
            refine Ops.quiet (Qt.load_map ([] : List UInt8) rfl (tk rfl) rfl (by repeat (first | assumption | exact Reads.of_head | apply Reads.tail)) (by omega)) rfl ?_
            refine Ops.eff (Ef.str_bytes rfl (tk rfl) (tk rfl) (tk rfl) (by omega)) rfl ?_
            rintro _ _ ⟨A72, c72, rfl, rfl⟩
            refine Ops.eff (Ef.call (fok fab_all rfl Tryd.func10 rfl) rfl (Spec.conv (fun w hw => hw.perm (.swap _ _ _)) (sF _ _ _ _ (by repeat (first | assumption | exact Reads.of_head | apply Reads.tail))))) rfl ?_
            rintro _ c0 ⟨rfl, h0⟩; subst c0
            refine Ops.nil ?_
            refine H.then_normal ?_
            refine H.block ?_
            refine H.loop (X := Bs × List Bs) (fun p => [(0, .slice tA targets.length tc), (1, .slice bA bn bc), (7, ptr b), (8, str p.1), (9, .slice rA (3 + targets.length + 2) rc), (10, num k), (12, num j)]) (fun p => client b { d with out := p.2 } :: osl 9 rA (3 + targets.length + 2) rc ((wRep targets.length k).map str) :: cs) (fun p => p.1 ++ p.2.flatten = (wSt targets body k j).2 ++ d.out.flatten) (fun p => p.2.length) ((wSt targets body k j).2, d.out) rfl (by repeat (first | exact trivial | refine ⟨rfl, ?_⟩)) (fun w hw => hw.sub (by repeat (first | exact List.Sublist.refl _ | exact List.nil_sublist _ | apply List.Sublist.cons_cons | apply List.Sublist.cons))) ?_
            rintro ⟨s, o⟩ hso
            simp only at hso
            change H _ _ [(0, .slice tA targets.length tc), (1, .slice bA bn bc), (7, ptr b), (8, str s), (9, .slice rA (3 + targets.length + 2) rc), (10, num k), (12, num j)] (client b { d with out := o } :: osl 9 rA (3 + targets.length + 2) rc ((wRep targets.length k).map str) :: cs) _
            refine H.block ?_
            refine H.seq ?_
            refine H.region ?_
            refine Ops.quiet (Qt.move rfl) rfl ?_
            refine Ops.eff (Ef.call (fok fab_all rfl Tryd.func14 rfl) rfl (spec_Next w0 b { d with out := o } _)) rfl ?_
            rintro _ c0 ⟨rfl, h0⟩; subst c0
            refine Ops.quiet (Qt.move rfl) rfl ?_
            refine Ops.quiet (Qt.extract rfl rfl) rfl ?_
            refine Ops.quiet (Qt.extract rfl rfl) rfl ?_
            refine Ops.quiet (Qt.assign rfl) rfl ?_
            refine Ops.quiet (Qt.assign rfl) rfl ?_
            refine Ops.nil ?_
            refine H.then_normal ?_
            refine H.seq ?_
            refine H.seq ?_
            refine H.region ?_
            refine Ops.quiet (Qt.move rfl) rfl ?_
            refine Ops.quiet (Qt.not rfl) rfl ?_
            refine Ops.nil ?_
            refine H.then_normal ?_
            refine H.cond rfl (fun h80 => ?_) (fun h80 => ?_)
            · try simp only [decide_eq_true_eq, decide_eq_false_iff_not, beq_iff_eq, beq_eq_false_iff_ne, bne_iff_ne, ne_eq, Bool.not_eq_true', Bool.not_eq_false', bne_eq_false_iff_eq, Bool.not_eq_eq_eq_not, Bool.not_true, Bool.not_false] at h80
              refine H.exit ?_
              refine H.then_exit ?_
              refine H.blk_miss rfl ?_
              refine H.then_exit ?_
              refine H.blk_hit ?_
              refine H.blk_normal ?_
              refine H.then_normal ?_
              refine H.region ?_
              refine Ops.quiet (Qt.move rfl) rfl ?_
              refine Ops.quiet (Qt.addk rfl rfl (by first | exact IntWalk.i64_in _ (by omega) | exact IntWalk.u8_in _ (by omega) | exact IntWalk.u64_in _ (by omega) | exact IntWalk.u32_in _ (by omega) | exact IntWalk.u16_in _ (by omega))) rfl ?_
              refine Ops.quiet (Qt.assign rfl) rfl ?_
              refine Ops.nil ?_
              refine H.then_normal ?_
              have ho0 : o = [] := by
                cases o with
                | nil => rfl
                | cons x l => simp at h80
              subst ho0
              rw [List.flatten_nil, List.append_nil] at hso
              refine H.round (j + 1) (by omega) (by omega) (by rw [hd2, ← hso]; repeat (first | exact trivial | refine ⟨rfl, ?_⟩)) (fun w hw => ?_)
              rw [hd1]
              exact hw
            · try simp only [decide_eq_true_eq, decide_eq_false_iff_not, beq_iff_eq, beq_eq_false_iff_ne, bne_iff_ne, ne_eq, Bool.not_eq_true', Bool.not_eq_false', bne_eq_false_iff_eq, Bool.not_eq_eq_eq_not, Bool.not_true, Bool.not_false] at h80
              refine H.skip ?_
              refine H.then_normal ?_
              obtain ⟨x, r, rfl⟩ : ∃ x r, o = x :: r := by
                cases o with
                | nil => simp at h80
                | cons x r => exact ⟨x, r, rfl⟩
              have hlx : s.length + (({ d with out := x :: r } : Cl).out.getD 0 []).length ≤ 1000000000000000000 := by
                show s.length + x.length ≤ _
                rw [← hso] at hd3
                simp only [List.flatten_cons, List.length_append] at hd3
                omega
              refine H.region ?_
              refine Ops.quiet (Qt.move rfl) rfl ?_
              refine Ops.quiet (Qt.move rfl) rfl ?_
              refine Ops.quiet (Qt.cat rfl rfl (by exact Nat.le_trans hlx (by decide))) rfl ?_
              refine Ops.quiet (Qt.assign rfl) rfl ?_
              refine Ops.nil ?_
              refine H.blk_normal ?_
              refine H.then_normal ?_
              refine H.round (s ++ x, r) (by show (s ++ x) ++ r.flatten = _; rw [← hso, List.flatten_cons, List.append_assoc]) (by simp only [List.length_cons]; omega) (by repeat (first | exact trivial | refine ⟨rfl, ?_⟩)) (fun w hw => hw)
          · try simp only [decide_eq_true_eq, decide_eq_false_iff_not, beq_iff_eq, beq_eq_false_iff_ne, bne_iff_ne, ne_eq, Bool.not_eq_true', Bool.not_eq_false', bne_eq_false_iff_eq, Bool.not_eq_eq_eq_not, Bool.not_true, Bool.not_false] at h64
            refine H.exit ?_
            refine H.then_exit ?_
            refine H.then_exit ?_
            refine H.blk_hit ?_
            refine H.then_normal ?_
            refine H.seq ?_
            obtain rfl : j = targets.length + 5 := by omega
            obtain ⟨Z, hZ⟩ : ∃ Z, Z = (wSt targets body k (targets.length + 5)).1 := ⟨_, rfl⟩
            rw [f1, ← hZ]
            rw [← hZ] at f2 f3 f4
            have sC := fun fr => spec_Codes w0 b Z fr (by rw [f3]; simp [wFin]; omega)
            have sO := fun fr => spec_Over w0 b Z fr
            have hfn : (wFin targets.length k).length = targets.length := by simp [wFin]
            rw [f3, hfn] at sC
            rw [f2] at sO
            have hwl : (wWant targets body k).length ≤ 1000000000000000000 := by rw [← f1]; exact hfl
            have hrc : ∀ i, (wRc (targets.take i)).length ≤ 1000000000000012 * 50 := fun i => by
              have e1 := wRc_len (T := targets.take i) (fun t ht => hts t (List.mem_of_mem_take ht))
              rw [List.length_take] at e1
              exact Nat.le_trans e1 (Nat.mul_le_mul_left _ (by omega))
            refine H.region ?_
            refine Ops.quiet (Qt.assign rfl) rfl ?_
            refine Ops.nil ?_
            refine H.then_normal ?_
            refine H.seq ?_
            refine H.seq ?_
            refine H.region ?_
            refine Ops.quiet (Qt.assign rfl) rfl ?_
            refine Ops.nil ?_
            refine H.then_normal ?_
            refine H.block ?_
            refine H.loop (X := Nat) (fun i => [(0, .slice tA targets.length tc), (1, .slice bA bn bc), (7, ptr b), (8, str (wWant targets body k)), (10, num k), (15, str (wPre ++ wRc (targets.take i))), (16, num i)]) (fun i => client b Z :: cs) (fun i => i ≤ targets.length) (fun i => targets.length - i) 0 (Nat.zero_le _) (by repeat (first | exact trivial | refine ⟨rfl, ?_⟩)) (fun w hw => hw.sub (by repeat (first | exact List.Sublist.refl _ | exact List.nil_sublist _ | apply List.Sublist.cons_cons | apply List.Sublist.cons))) ?_
            intro i hi
            have hrci := hrc i
            refine H.seq ?_
            refine H.seq ?_
            refine H.region ?_
            refine Ops.quiet (Qt.move rfl) rfl ?_
            refine Ops.quiet (Qt.move rfl) rfl ?_
            refine Ops.quiet (Qt.len_sl (ats := #[]) rfl (tk rfl)) rfl ?_
            refine Ops.quiet (Qt.lss rfl rfl) rfl ?_
            refine Ops.nil ?_
            refine H.then_normal ?_
            refine H.cond rfl (fun h87 => ?_) (fun h87 => ?_)
            · try simp only [decide_eq_true_eq, decide_eq_false_iff_not, beq_iff_eq, beq_eq_false_iff_ne, bne_iff_ne, ne_eq, Bool.not_eq_true', Bool.not_eq_false', bne_eq_false_iff_eq, Bool.not_eq_eq_eq_not, Bool.not_true, Bool.not_false] at h87
              refine H.skip ?_
              refine H.then_normal ?_
              refine H.seq ?_
              refine H.block ?_
              have hi2 : i < targets.length := by omega
              have hts2 : Sm (targets.getD (i : Int).toNat []) := hts _ (by show targets.getD i [] ∈ _; rw [List.getD_eq_getElem?_getD, List.getElem?_eq_getElem hi2]; simp)
              simp only [Sm] at hts2
              refine H.region ?_
              refine Ops.quiet (Qt.move rfl) rfl ?_
              refine Ops.quiet (Qt.cat rfl rfl (by (try simp only [List.length_append, List.length_cons, List.length_nil]); omega)) rfl ?_
              refine Ops.quiet (Qt.move rfl) rfl ?_
              refine Ops.quiet (Qt.move rfl) rfl ?_
              refine Ops.quiet (Qt.indexAddr rfl rfl (tk rfl) (tk rfl) rfl (by repeat (first | assumption | exact Reads.of_head | apply Reads.tail)) (by omega) (by omega)) rfl ?_
              refine Ops.quiet (Qt.load_map ([] : List UInt8) rfl (tk rfl) rfl (by repeat (first | assumption | exact Reads.of_head | apply Reads.tail)) (by omega)) rfl ?_
              refine Ops.quiet (Qt.cat rfl rfl (by (try simp only [List.length_append, List.length_cons, List.length_nil]); omega)) rfl ?_
              refine Ops.quiet (Qt.cat rfl rfl (by (try simp only [List.length_append, List.length_cons, List.length_nil]); omega)) rfl ?_
              refine Ops.quiet (Qt.assign rfl) rfl ?_
              refine Ops.nil ?_
              refine H.blk_normal ?_
              refine H.then_normal ?_
              refine H.region ?_
              refine Ops.quiet (Qt.move rfl) rfl ?_
              refine Ops.quiet (Qt.addk rfl rfl (by first | exact IntWalk.i64_in _ (by omega) | exact IntWalk.u8_in _ (by omega) | exact IntWalk.u64_in _ (by omega) | exact IntWalk.u32_in _ (by omega) | exact IntWalk.u16_in _ (by omega))) rfl ?_
              refine Ops.quiet (Qt.assign rfl) rfl ?_
              refine Ops.nil ?_
              refine H.then_normal ?_
              refine H.round (i + 1) (by omega) (by omega) ?_ (fun w hw => hw)
              have e1 : wPre ++ wRc (targets.take (i + 1)) = (((wPre ++ wRc (targets.take i)) ++ [82, 67, 80, 84, 32, 84, 79, 58, 60]) ++ targets.getD i []) ++ [62, 13, 10] := by rw [wRc_take hi2]; simp only [rcL, List.append_assoc]; rfl
              rw [e1]
              repeat (first | exact trivial | refine ⟨rfl, ?_⟩)
            · try simp only [decide_eq_true_eq, decide_eq_false_iff_not, beq_iff_eq, beq_eq_false_iff_ne, bne_iff_ne, ne_eq, Bool.not_eq_true', Bool.not_eq_false', bne_eq_false_iff_eq, Bool.not_eq_eq_eq_not, Bool.not_true, Bool.not_false] at h87
              refine H.exit ?_
              refine H.then_exit ?_
              refine H.then_exit ?_
              refine H.blk_hit ?_
              refine H.then_normal ?_
              refine H.seq ?_
              refine H.seq ?_
              have e1 : targets.take i = targets := List.take_of_length_le (by omega)
              rw [e1]
              have hrct : (wRc targets).length ≤ 1000000000000012 * 50 := by rw [← e1]; exact hrci
              have hst := stuffB_len body
              refine H.region ?_
              refine Ops.quiet (Qt.move rfl) rfl ?_
              refine Ops.quiet (Qt.len_sl (ats := #[]) rfl (tk rfl)) rfl ?_
              refine Ops.quiet (Qt.gtr rfl rfl) rfl ?_
              refine Ops.quiet (Qt.move rfl) rfl ?_
              refine Ops.guard rfl rfl rfl rfl (fun g101 => ?_) (fun g101 => ?_)
              · have g101' := g101
                try simp only [decide_eq_true_eq, decide_eq_false_iff_not, beq_iff_eq, beq_eq_false_iff_ne, bne_iff_ne, ne_eq, Bool.not_eq_true', Bool.not_eq_false', bne_eq_false_iff_eq, Bool.not_eq_eq_eq_not, Bool.not_true, Bool.not_false] at g101'
                refine Ops.quiet (Qt.move rfl) rfl ?_
                refine Ops.guard_yes rfl rfl rfl rfl g101 ?_
                refine Ops.quiet (Qt.neq rfl rfl) rfl ?_
                refine Ops.quiet (Qt.pick_f rfl rfl g101) rfl ?_
                refine Ops.nil ?_
                refine H.then_normal ?_
                refine H.cond rfl (fun h104 => ?_) (fun h104 => ?_)
                · try simp only [decide_eq_true_eq, decide_eq_false_iff_not, beq_iff_eq, beq_eq_false_iff_ne, bne_iff_ne, ne_eq, Bool.not_eq_true', Bool.not_eq_false', bne_eq_false_iff_eq, Bool.not_eq_eq_eq_not, Bool.not_true, Bool.not_false] at h104
                  refine H.region ?_
                  refine Ops.quiet (Qt.move rfl) rfl ?_
                  refine Ops.quiet (Qt.cat rfl rfl (by (try simp only [List.length_append, List.length_cons, List.length_nil]); omega)) rfl ?_
                  refine Ops.quiet (Qt.move rfl) rfl ?_
                  refine Ops.eff (Ef.call (fok fab_all rfl Tryd.func18 rfl) rfl (spec_rstuff w0 body _ (by repeat (first | assumption | exact Reads.of_head | apply Reads.tail)) (by omega))) rfl ?_
                  rintro _ c0 ⟨rfl, h0⟩; subst c0
                  refine Ops.quiet (Qt.cat rfl rfl (by (try simp only [List.length_append, List.length_cons, List.length_nil]); omega)) rfl ?_
                  refine Ops.quiet (Qt.assign rfl) rfl ?_
                  refine Ops.nil ?_
                  refine H.then_normal ?_
                  refine H.seq ?_
                  refine H.region ?_
                  refine Ops.quiet (Qt.move rfl) rfl ?_
                  refine Ops.quiet (Qt.cat rfl rfl (by (try simp only [List.length_append, List.length_cons, List.length_nil]); omega)) rfl ?_
                  refine Ops.quiet (Qt.assign rfl) rfl ?_
                  refine Ops.nil ?_
                  refine H.then_normal ?_
                  refine H.seq ?_
                  have e2 : (((wPre ++ wRc targets) ++ [68, 65, 84, 65, 13, 10]) ++ (stuffB body ++ [46, 13, 10])) ++ [81, 85, 73, 84, 13, 10] = wWant targets body k := by
                    unfold wWant
                    rw [if_pos (by omega)]
                    simp only [List.append_assoc]
                  refine H.env (ESub.ok (e' := [(0, .slice tA targets.length tc), (1, .slice bA bn bc), (7, ptr b), (8, str (wWant targets body k)), (10, num k), (15, str (wWant targets body k))]) ?_) ?_
                  · rw [← e2]
                    repeat (first | exact trivial | refine ⟨rfl, ?_⟩)
                  refine H.region ?_
                  refine Ops.quiet (Qt.move rfl) rfl ?_
                  refine Ops.eff (Ef.call (fok fab_all rfl Tryd.func16 rfl) rfl (sC _)) rfl ?_
                  rintro _ _ ⟨A113, rfl, k113, rfl⟩
                  refine Ops.quiet (Qt.assign rfl) rfl ?_
                  refine Ops.nil ?_
                  refine H.then_normal ?_
                  refine H.seq ?_
                  refine H.seq ?_
                  refine H.region ?_
                  refine Ops.quiet (Qt.assign rfl) rfl ?_
                  refine Ops.nil ?_
                  refine H.then_normal ?_
                  refine H.block ?_
                  refine H.loop (X := Nat) (fun i => [(0, .slice tA targets.length tc), (7, ptr b), (8, str (wWant targets body k)), (10, num k), (15, str (wWant targets body k)), (17, .slice A113 targets.length targets.length), (18, num i)]) (fun i => client b Z :: osl 3 A113 targets.length k113 ((wFin targets.length k).map num) :: cs) (fun i => i ≤ targets.length) (fun i => targets.length - i) 0 (Nat.zero_le _) (by repeat (first | exact trivial | refine ⟨rfl, ?_⟩)) (fun w hw => hw) ?_
                  intro m hm
                  refine H.seq ?_
                  refine H.seq ?_
                  refine H.region ?_
                  refine Ops.quiet (Qt.move rfl) rfl ?_
                  refine Ops.quiet (Qt.move rfl) rfl ?_
                  refine Ops.quiet (Qt.len_sl (ats := #[]) rfl (tk rfl)) rfl ?_
                  refine Ops.quiet (Qt.lss rfl rfl) rfl ?_
                  refine Ops.nil ?_
                  refine H.then_normal ?_
                  refine H.cond rfl (fun h117 => ?_) (fun h117 => ?_)
                  · try simp only [decide_eq_true_eq, decide_eq_false_iff_not, beq_iff_eq, beq_eq_false_iff_ne, bne_iff_ne, ne_eq, Bool.not_eq_true', Bool.not_eq_false', bne_eq_false_iff_eq, Bool.not_eq_eq_eq_not, Bool.not_true, Bool.not_false] at h117
                    refine H.skip ?_
                    refine H.then_normal ?_
                    refine H.seq ?_
                    refine H.block ?_
                    refine H.seq ?_
                    have hm2 : m < (wFin targets.length k).length := by omega
                    have hm3 : (m : Int).toNat < (wFin targets.length k).length := hm2
                    have hwf : (wFin targets.length k).getD (m : Int).toNat 0 = if m = k then 550 else 250 := by
                      show (wFin targets.length k).getD m 0 = _
                      have hm4 : m < targets.length := by omega
                      simp [List.getD_eq_getElem?_getD, wFin, hm4]
                    refine H.region ?_
                    refine Ops.quiet (Qt.move rfl) rfl ?_
                    refine Ops.quiet (Qt.move rfl) rfl ?_
                    refine Ops.quiet (Qt.eql rfl rfl) rfl ?_
                    refine Ops.quiet (Qt.move rfl) rfl ?_
                    refine Ops.guard rfl rfl rfl rfl (fun g123 => ?_) (fun g123 => ?_)
                    · have g123' := g123
                      try simp only [decide_eq_true_eq, decide_eq_false_iff_not, beq_iff_eq, beq_eq_false_iff_ne, bne_iff_ne, ne_eq, Bool.not_eq_true', Bool.not_eq_false', bne_eq_false_iff_eq, Bool.not_eq_eq_eq_not, Bool.not_true, Bool.not_false] at g123'
                      refine Ops.quiet (Qt.move rfl) rfl ?_
                      refine Ops.guard_yes rfl rfl rfl rfl g123 ?_
                      refine Ops.quiet (Qt.move rfl) rfl ?_
                      refine Ops.guard_yes rfl rfl rfl rfl g123 ?_
                      refine Ops.quiet (Qt.indexAddr rfl rfl (tk rfl) (tk rfl) rfl (Reads.clip (c := k113) (xs := (wFin targets.length k).map num) (by repeat (first | assumption | exact Reads.of_head | apply Reads.tail))) (by omega) (by omega)) rfl ?_
                      refine Ops.guard_yes rfl rfl rfl rfl g123 ?_
                      refine Ops.quiet (Qt.load_map (0 : Int) rfl (tk rfl) rfl (Reads.clip (c := k113) (by repeat (first | assumption | exact Reads.of_head | apply Reads.tail))) (by exact hm3)) rfl ?_
                      refine Ops.guard_yes rfl rfl rfl rfl g123 ?_
                      refine Ops.quiet (Qt.neq rfl rfl) rfl ?_
                      refine Ops.quiet (Qt.pick_t rfl rfl g123) rfl ?_
                      refine Ops.quiet (Qt.move rfl) rfl ?_
                      refine Ops.guard rfl rfl rfl rfl (fun g130 => ?_) (fun g130 => ?_)
                      · have g130' := g130
                        try simp only [decide_eq_true_eq, decide_eq_false_iff_not, beq_iff_eq, beq_eq_false_iff_ne, bne_iff_ne, ne_eq, Bool.not_eq_true', Bool.not_eq_false', bne_eq_false_iff_eq, Bool.not_eq_eq_eq_not, Bool.not_true, Bool.not_false] at g130'
                        refine Ops.quiet (Qt.move rfl) rfl ?_
                        refine Ops.guard_yes rfl rfl rfl rfl g130 ?_
                        refine Ops.quiet (Qt.move rfl) rfl ?_
                        refine Ops.guard_yes rfl rfl rfl rfl g130 ?_
                        refine Ops.quiet (Qt.neq rfl rfl) rfl ?_
                        refine Ops.guard_yes rfl rfl rfl rfl g130 ?_
                        refine Ops.quiet (Qt.move rfl) rfl ?_
                        refine Ops.guard rfl rfl rfl rfl (fun g134 => ?_) (fun g134 => ?_)
                        · have g134' := g134
                          try simp only [decide_eq_true_eq, decide_eq_false_iff_not, beq_iff_eq, beq_eq_false_iff_ne, bne_iff_ne, ne_eq, Bool.not_eq_true', Bool.not_eq_false', bne_eq_false_iff_eq, Bool.not_eq_eq_eq_not, Bool.not_true, Bool.not_false] at g134'
                          exact absurd (show (m : Int) = k by omega) g134'
                        · have g134' := g134
                          try simp only [decide_eq_true_eq, decide_eq_false_iff_not, beq_iff_eq, beq_eq_false_iff_ne, bne_iff_ne, ne_eq, Bool.not_eq_true', Bool.not_eq_false', bne_eq_false_iff_eq, Bool.not_eq_eq_eq_not, Bool.not_true, Bool.not_false] at g134'
                          refine Ops.guard_no rfl rfl rfl rfl g134 ?_
                          refine Ops.guard_no rfl rfl rfl rfl g134 ?_
                          refine Ops.guard_no rfl rfl rfl rfl g134 ?_
                          refine Ops.guard_no rfl rfl rfl rfl g134 ?_
                          refine Ops.guard_yes rfl rfl rfl rfl g130 ?_
                          refine Ops.quiet (Qt.pick_f rfl rfl g134) rfl ?_
                          refine Ops.quiet (Qt.pick_f rfl rfl g130) rfl ?_
                          refine Ops.nil ?_
                          refine H.then_normal ?_
                          refine H.cond_false rfl (by rfl) ?_
                          refine H.skip ?_
                          refine H.blk_normal ?_
                          refine H.then_normal ?_
                          refine H.region ?_
                          refine Ops.quiet (Qt.move rfl) rfl ?_
                          refine Ops.quiet (Qt.addk rfl rfl (by first | exact IntWalk.i64_in _ (by omega) | exact IntWalk.u8_in _ (by omega) | exact IntWalk.u64_in _ (by omega) | exact IntWalk.u32_in _ (by omega) | exact IntWalk.u16_in _ (by omega))) rfl ?_
                          refine Ops.quiet (Qt.assign rfl) rfl ?_
                          refine Ops.nil ?_
                          refine H.then_normal ?_
                          refine H.round (m + 1) (by omega) (by omega) (by repeat (first | exact trivial | refine ⟨rfl, ?_⟩)) (fun w hw => hw)
                      · have g130' := g130
                        try simp only [decide_eq_true_eq, decide_eq_false_iff_not, beq_iff_eq, beq_eq_false_iff_ne, bne_iff_ne, ne_eq, Bool.not_eq_true', Bool.not_eq_false', bne_eq_false_iff_eq, Bool.not_eq_eq_eq_not, Bool.not_true, Bool.not_false] at g130'
                        exact absurd (show (wFin targets.length k).getD (m : Int).toNat 0 = 550 by rw [hwf, if_pos (by omega)]) g130'
                    · have g123' := g123
                      try simp only [decide_eq_true_eq, decide_eq_false_iff_not, beq_iff_eq, beq_eq_false_iff_ne, bne_iff_ne, ne_eq, Bool.not_eq_true', Bool.not_eq_false', bne_eq_false_iff_eq, Bool.not_eq_eq_eq_not, Bool.not_true, Bool.not_false] at g123'
                      refine Ops.guard_no rfl rfl rfl rfl g123 ?_
                      refine Ops.guard_no rfl rfl rfl rfl g123 ?_
                      refine Ops.guard_no rfl rfl rfl rfl g123 ?_
                      refine Ops.guard_no rfl rfl rfl rfl g123 ?_
                      refine Ops.quiet (Qt.pick_f rfl rfl g123) rfl ?_
                      refine Ops.quiet (Qt.move rfl) rfl ?_
                      refine Ops.guard rfl rfl rfl rfl (fun g130 => ?_) (fun g130 => ?_)
                      · have g130' := g130
                        try simp only [decide_eq_true_eq, decide_eq_false_iff_not, beq_iff_eq, beq_eq_false_iff_ne, bne_iff_ne, ne_eq, Bool.not_eq_true', Bool.not_eq_false', bne_eq_false_iff_eq, Bool.not_eq_eq_eq_not, Bool.not_true, Bool.not_false] at g130'
                        refine Ops.quiet (Qt.move rfl) rfl ?_
                        refine Ops.guard_yes rfl rfl rfl rfl g130 ?_
                        refine Ops.quiet (Qt.move rfl) rfl ?_
                        refine Ops.guard_yes rfl rfl rfl rfl g130 ?_
                        refine Ops.quiet (Qt.neq rfl rfl) rfl ?_
                        refine Ops.guard_yes rfl rfl rfl rfl g130 ?_
                        refine Ops.quiet (Qt.move rfl) rfl ?_
                        refine Ops.guard rfl rfl rfl rfl (fun g134 => ?_) (fun g134 => ?_)
                        · have g134' := g134
                          try simp only [decide_eq_true_eq, decide_eq_false_iff_not, beq_iff_eq, beq_eq_false_iff_ne, bne_iff_ne, ne_eq, Bool.not_eq_true', Bool.not_eq_false', bne_eq_false_iff_eq, Bool.not_eq_eq_eq_not, Bool.not_true, Bool.not_false] at g134'
                          refine Ops.quiet (Qt.move rfl) rfl ?_
                          refine Ops.guard_yes rfl rfl rfl rfl g134 ?_
                          refine Ops.quiet (Qt.move rfl) rfl ?_
                          refine Ops.guard_yes rfl rfl rfl rfl g134 ?_
                          refine Ops.quiet (Qt.indexAddr rfl rfl (tk rfl) (tk rfl) rfl (Reads.clip (c := k113) (xs := (wFin targets.length k).map num) (by repeat (first | assumption | exact Reads.of_head | apply Reads.tail))) (by omega) (by omega)) rfl ?_
                          refine Ops.guard_yes rfl rfl rfl rfl g134 ?_
                          refine Ops.quiet (Qt.load_map (0 : Int) rfl (tk rfl) rfl (Reads.clip (c := k113) (by repeat (first | assumption | exact Reads.of_head | apply Reads.tail))) (by exact hm3)) rfl ?_
                          refine Ops.guard_yes rfl rfl rfl rfl g134 ?_
                          refine Ops.quiet (Qt.neq rfl rfl) rfl ?_
                          refine Ops.guard_yes rfl rfl rfl rfl g130 ?_
                          refine Ops.quiet (Qt.pick_t rfl rfl g134) rfl ?_
                          refine Ops.quiet (Qt.pick_f rfl rfl g130) rfl ?_
                          refine Ops.nil ?_
                          refine H.then_normal ?_
                          refine H.cond_false rfl (by rw [hwf, if_neg (by omega)]; rfl) ?_
                          refine H.skip ?_
                          refine H.blk_normal ?_
                          refine H.then_normal ?_
                          refine H.region ?_
                          refine Ops.quiet (Qt.move rfl) rfl ?_
                          refine Ops.quiet (Qt.addk rfl rfl (by first | exact IntWalk.i64_in _ (by omega) | exact IntWalk.u8_in _ (by omega) | exact IntWalk.u64_in _ (by omega) | exact IntWalk.u32_in _ (by omega) | exact IntWalk.u16_in _ (by omega))) rfl ?_
                          refine Ops.quiet (Qt.assign rfl) rfl ?_
                          refine Ops.nil ?_
                          refine H.then_normal ?_
                          refine H.round (m + 1) (by omega) (by omega) (by repeat (first | exact trivial | refine ⟨rfl, ?_⟩)) (fun w hw => hw)
                        · have g134' := g134
                          try simp only [decide_eq_true_eq, decide_eq_false_iff_not, beq_iff_eq, beq_eq_false_iff_ne, bne_iff_ne, ne_eq, Bool.not_eq_true', Bool.not_eq_false', bne_eq_false_iff_eq, Bool.not_eq_eq_eq_not, Bool.not_true, Bool.not_false] at g134'
                          exact absurd g123' (by simpa using g134')
                      · have g130' := g130
                        try simp only [decide_eq_true_eq, decide_eq_false_iff_not, beq_iff_eq, beq_eq_false_iff_ne, bne_iff_ne, ne_eq, Bool.not_eq_true', Bool.not_eq_false', bne_eq_false_iff_eq, Bool.not_eq_eq_eq_not, Bool.not_true, Bool.not_false] at g130'
                        exact Bool.noConfusion g130
                  · try simp only [decide_eq_true_eq, decide_eq_false_iff_not, beq_iff_eq, beq_eq_false_iff_ne, bne_iff_ne, ne_eq, Bool.not_eq_true', Bool.not_eq_false', bne_eq_false_iff_eq, Bool.not_eq_eq_eq_not, Bool.not_true, Bool.not_false] at h117
                    refine H.exit ?_
                    refine H.then_exit ?_
                    refine H.then_exit ?_
                    refine H.blk_hit ?_
                    refine H.then_normal ?_
                    refine H.seq ?_
                    refine H.region ?_
                    refine Ops.eff (Ef.call (fok fab_all rfl Tryd.func7 rfl) rfl (spec_answers w0 hG _)) rfl ?_
                    rintro _ c0 ⟨rfl, h0⟩; subst c0
                    refine Ops.quiet (Qt.move rfl) rfl ?_
                    refine Ops.guard rfl rfl rfl rfl (fun g143 => ?_) (fun g143 => ?_)
                    · have g143' := g143
                      try simp only [decide_eq_true_eq, decide_eq_false_iff_not, beq_iff_eq, beq_eq_false_iff_ne, bne_iff_ne, ne_eq, Bool.not_eq_true', Bool.not_eq_false', bne_eq_false_iff_eq, Bool.not_eq_eq_eq_not, Bool.not_true, Bool.not_false] at g143'
                      refine Ops.quiet (Qt.move rfl) rfl ?_
                      refine Ops.guard_yes rfl rfl rfl rfl g143 ?_
                      refine Ops.quiet (Qt.move rfl) rfl ?_
                      refine Ops.guard_yes rfl rfl rfl rfl g143 ?_
                      refine Ops.quiet (Qt.seq rfl rfl) rfl ?_
                      refine Ops.quiet (Qt.pick_t rfl rfl g143) rfl ?_
                      refine Ops.quiet (Qt.move rfl) rfl ?_
                      refine Ops.guard rfl rfl rfl rfl (fun g148 => ?_) (fun g148 => ?_)
                      · have g148' := g148
                        try simp only [decide_eq_true_eq, decide_eq_false_iff_not, beq_iff_eq, beq_eq_false_iff_ne, bne_iff_ne, ne_eq, Bool.not_eq_true', Bool.not_eq_false', bne_eq_false_iff_eq, Bool.not_eq_eq_eq_not, Bool.not_true, Bool.not_false] at g148'
                        refine Ops.quiet (Qt.move rfl) rfl ?_
                        refine Ops.guard_yes rfl rfl rfl rfl g148 ?_
                        refine Ops.eff (Ef.call (fok fab_all rfl Tryd.func15 rfl) rfl (sO _)) rfl ?_
                        rintro _ c0 ⟨rfl, h0⟩; subst c0
                        refine Ops.quiet (Qt.pick_t rfl rfl g148) rfl ?_
                        refine Ops.quiet (Qt.move rfl) rfl ?_
                        refine Ops.guard rfl rfl rfl rfl (fun g152 => ?_) (fun g152 => ?_)
                        · have g152' := g152
                          try simp only [decide_eq_true_eq, decide_eq_false_iff_not, beq_iff_eq, beq_eq_false_iff_ne, bne_iff_ne, ne_eq, Bool.not_eq_true', Bool.not_eq_false', bne_eq_false_iff_eq, Bool.not_eq_eq_eq_not, Bool.not_true, Bool.not_false] at g152'
                          refine Ops.quiet (Qt.move rfl) rfl ?_
                          refine Ops.guard_yes rfl rfl rfl rfl g152 ?_
                          refine Ops.quiet (Qt.len_sl (ats := #[]) rfl (tk rfl)) rfl ?_
                          refine Ops.guard_yes rfl rfl rfl rfl g152 ?_
                          refine Ops.quiet (Qt.move rfl) rfl ?_
                          refine Ops.guard_yes rfl rfl rfl rfl g152 ?_
                          refine Ops.quiet (Qt.len_sl (ats := #[]) rfl (tk rfl)) rfl ?_
                          refine Ops.guard_yes rfl rfl rfl rfl g152 ?_
                          refine Ops.quiet (Qt.eql rfl rfl) rfl ?_
                          refine Ops.quiet (Qt.pick_t rfl rfl g152) rfl ?_
                          refine Ops.quiet (Qt.assign rfl) rfl ?_
                          refine Ops.nil ?_
                          refine H.then_normal ?_
                          refine H.ret ?_
                          refine (H.ends rfl (.cons (.tmp rfl) .nil) ?_)
                          exact congrArg bol (beq_self_eq_true _)
                        · have g152' := g152
                          try simp only [decide_eq_true_eq, decide_eq_false_iff_not, beq_iff_eq, beq_eq_false_iff_ne, bne_iff_ne, ne_eq, Bool.not_eq_true', Bool.not_eq_false', bne_eq_false_iff_eq, Bool.not_eq_eq_eq_not, Bool.not_true, Bool.not_false] at g152'
                          exact Bool.noConfusion g152
                      · have g148' := g148
                        try simp only [decide_eq_true_eq, decide_eq_false_iff_not, beq_iff_eq, beq_eq_false_iff_ne, bne_iff_ne, ne_eq, Bool.not_eq_true', Bool.not_eq_false', bne_eq_false_iff_eq, Bool.not_eq_eq_eq_not, Bool.not_true, Bool.not_false] at g148'
                        exact absurd g148 (by simp)
                    · have g143' := g143
                      try simp only [decide_eq_true_eq, decide_eq_false_iff_not, beq_iff_eq, beq_eq_false_iff_ne, bne_iff_ne, ne_eq, Bool.not_eq_true', Bool.not_eq_false', bne_eq_false_iff_eq, Bool.not_eq_eq_eq_not, Bool.not_true, Bool.not_false] at g143'
                      exact Bool.noConfusion g143
                · try simp only [decide_eq_true_eq, decide_eq_false_iff_not, beq_iff_eq, beq_eq_false_iff_ne, bne_iff_ne, ne_eq, Bool.not_eq_true', Bool.not_eq_false', bne_eq_false_iff_eq, Bool.not_eq_eq_eq_not, Bool.not_true, Bool.not_false] at h104
                  refine H.skip ?_
                  refine H.then_normal ?_
                  refine H.seq ?_
                  refine H.region ?_
                  refine Ops.quiet (Qt.move rfl) rfl ?_
                  refine Ops.quiet (Qt.cat rfl rfl (by (try simp only [List.length_append, List.length_cons, List.length_nil]); omega)) rfl ?_
                  refine Ops.quiet (Qt.assign rfl) rfl ?_
                  refine Ops.nil ?_
                  refine H.then_normal ?_
                  refine H.seq ?_
                  have e2 : (wPre ++ wRc targets) ++ [81, 85, 73, 84, 13, 10] = wWant targets body k := by
                    unfold wWant
                    rw [if_neg (by omega), List.append_nil]
                  refine H.env (ESub.ok (e' := [(0, .slice tA targets.length tc), (1, .slice bA bn bc), (7, ptr b), (8, str (wWant targets body k)), (10, num k), (15, str (wWant targets body k))]) ?_) ?_
                  · rw [← e2]
                    repeat (first | exact trivial | refine ⟨rfl, ?_⟩)
                  refine H.region ?_
                  refine Ops.quiet (Qt.move rfl) rfl ?_
                  refine Ops.eff (Ef.call (fok fab_all rfl Tryd.func16 rfl) rfl (sC _)) rfl ?_
                  rintro _ _ ⟨A113, rfl, k113, rfl⟩
                  refine Ops.quiet (Qt.assign rfl) rfl ?_
                  refine Ops.nil ?_
                  refine H.then_normal ?_
                  refine H.seq ?_
                  refine H.seq ?_
                  refine H.region ?_
                  refine Ops.quiet (Qt.assign rfl) rfl ?_
                  refine Ops.nil ?_
                  refine H.then_normal ?_
                  refine H.block ?_
                  refine H.loop (X := Nat) (fun i => [(0, .slice tA targets.length tc), (7, ptr b), (8, str (wWant targets body k)), (10, num k), (15, str (wWant targets body k)), (17, .slice A113 targets.length targets.length), (18, num i)]) (fun i => client b Z :: osl 3 A113 targets.length k113 ((wFin targets.length k).map num) :: cs) (fun i => i ≤ targets.length) (fun i => targets.length - i) 0 (Nat.zero_le _) (by repeat (first | exact trivial | refine ⟨rfl, ?_⟩)) (fun w hw => hw) ?_
                  intro m hm
                  refine H.seq ?_
                  refine H.seq ?_
                  refine H.region ?_
                  refine Ops.quiet (Qt.move rfl) rfl ?_
                  refine Ops.quiet (Qt.move rfl) rfl ?_
                  refine Ops.quiet (Qt.len_sl (ats := #[]) rfl (tk rfl)) rfl ?_
                  refine Ops.quiet (Qt.lss rfl rfl) rfl ?_
                  refine Ops.nil ?_
                  refine H.then_normal ?_
                  refine H.cond rfl (fun h117 => ?_) (fun h117 => ?_)
                  · try simp only [decide_eq_true_eq, decide_eq_false_iff_not, beq_iff_eq, beq_eq_false_iff_ne, bne_iff_ne, ne_eq, Bool.not_eq_true', Bool.not_eq_false', bne_eq_false_iff_eq, Bool.not_eq_eq_eq_not, Bool.not_true, Bool.not_false] at h117
                    refine H.skip ?_
                    refine H.then_normal ?_
                    refine H.seq ?_
                    refine H.block ?_
                    refine H.seq ?_
                    have hm2 : m < (wFin targets.length k).length := by omega
                    have hm3 : (m : Int).toNat < (wFin targets.length k).length := hm2
                    have hwf : (wFin targets.length k).getD (m : Int).toNat 0 = if m = k then 550 else 250 := by
                      show (wFin targets.length k).getD m 0 = _
                      have hm4 : m < targets.length := by omega
                      simp [List.getD_eq_getElem?_getD, wFin, hm4]
                    refine H.region ?_
                    refine Ops.quiet (Qt.move rfl) rfl ?_
                    refine Ops.quiet (Qt.move rfl) rfl ?_
                    refine Ops.quiet (Qt.eql rfl rfl) rfl ?_
                    refine Ops.quiet (Qt.move rfl) rfl ?_
                    refine Ops.guard rfl rfl rfl rfl (fun g123 => ?_) (fun g123 => ?_)
                    · have g123' := g123
                      try simp only [decide_eq_true_eq, decide_eq_false_iff_not, beq_iff_eq, beq_eq_false_iff_ne, bne_iff_ne, ne_eq, Bool.not_eq_true', Bool.not_eq_false', bne_eq_false_iff_eq, Bool.not_eq_eq_eq_not, Bool.not_true, Bool.not_false] at g123'
                      refine Ops.quiet (Qt.move rfl) rfl ?_
                      refine Ops.guard_yes rfl rfl rfl rfl g123 ?_
                      refine Ops.quiet (Qt.move rfl) rfl ?_
                      refine Ops.guard_yes rfl rfl rfl rfl g123 ?_
                      refine Ops.quiet (Qt.indexAddr rfl rfl (tk rfl) (tk rfl) rfl (Reads.clip (c := k113) (xs := (wFin targets.length k).map num) (by repeat (first | assumption | exact Reads.of_head | apply Reads.tail))) (by omega) (by omega)) rfl ?_
                      refine Ops.guard_yes rfl rfl rfl rfl g123 ?_
                      refine Ops.quiet (Qt.load_map (0 : Int) rfl (tk rfl) rfl (Reads.clip (c := k113) (by repeat (first | assumption | exact Reads.of_head | apply Reads.tail))) (by exact hm3)) rfl ?_
                      refine Ops.guard_yes rfl rfl rfl rfl g123 ?_
                      refine Ops.quiet (Qt.neq rfl rfl) rfl ?_
                      refine Ops.quiet (Qt.pick_t rfl rfl g123) rfl ?_
                      refine Ops.quiet (Qt.move rfl) rfl ?_
                      refine Ops.guard rfl rfl rfl rfl (fun g130 => ?_) (fun g130 => ?_)
                      · have g130' := g130
                        try simp only [decide_eq_true_eq, decide_eq_false_iff_not, beq_iff_eq, beq_eq_false_iff_ne, bne_iff_ne, ne_eq, Bool.not_eq_true', Bool.not_eq_false', bne_eq_false_iff_eq, Bool.not_eq_eq_eq_not, Bool.not_true, Bool.not_false] at g130'
                        refine Ops.quiet (Qt.move rfl) rfl ?_
                        refine Ops.guard_yes rfl rfl rfl rfl g130 ?_
                        refine Ops.quiet (Qt.move rfl) rfl ?_
                        refine Ops.guard_yes rfl rfl rfl rfl g130 ?_
                        refine Ops.quiet (Qt.neq rfl rfl) rfl ?_
                        refine Ops.guard_yes rfl rfl rfl rfl g130 ?_
                        refine Ops.quiet (Qt.move rfl) rfl ?_
                        refine Ops.guard rfl rfl rfl rfl (fun g134 => ?_) (fun g134 => ?_)
                        · have g134' := g134
                          try simp only [decide_eq_true_eq, decide_eq_false_iff_not, beq_iff_eq, beq_eq_false_iff_ne, bne_iff_ne, ne_eq, Bool.not_eq_true', Bool.not_eq_false', bne_eq_false_iff_eq, Bool.not_eq_eq_eq_not, Bool.not_true, Bool.not_false] at g134'
                          exact absurd (show (m : Int) = k by omega) g134'
                        · have g134' := g134
                          try simp only [decide_eq_true_eq, decide_eq_false_iff_not, beq_iff_eq, beq_eq_false_iff_ne, bne_iff_ne, ne_eq, Bool.not_eq_true', Bool.not_eq_false', bne_eq_false_iff_eq, Bool.not_eq_eq_eq_not, Bool.not_true, Bool.not_false] at g134'
                          refine Ops.guard_no rfl rfl rfl rfl g134 ?_
                          refine Ops.guard_no rfl rfl rfl rfl g134 ?_
                          refine Ops.guard_no rfl rfl rfl rfl g134 ?_
                          refine Ops.guard_no rfl rfl rfl rfl g134 ?_
                          refine Ops.guard_yes rfl rfl rfl rfl g130 ?_
                          refine Ops.quiet (Qt.pick_f rfl rfl g134) rfl ?_
                          refine Ops.quiet (Qt.pick_f rfl rfl g130) rfl ?_
                          refine Ops.nil ?_
                          refine H.then_normal ?_
                          refine H.cond_false rfl (by rfl) ?_
                          refine H.skip ?_
                          refine H.blk_normal ?_
                          refine H.then_normal ?_
                          refine H.region ?_
                          refine Ops.quiet (Qt.move rfl) rfl ?_
                          refine Ops.quiet (Qt.addk rfl rfl (by first | exact IntWalk.i64_in _ (by omega) | exact IntWalk.u8_in _ (by omega) | exact IntWalk.u64_in _ (by omega) | exact IntWalk.u32_in _ (by omega) | exact IntWalk.u16_in _ (by omega))) rfl ?_
                          refine Ops.quiet (Qt.assign rfl) rfl ?_
                          refine Ops.nil ?_
                          refine H.then_normal ?_
                          refine H.round (m + 1) (by omega) (by omega) (by repeat (first | exact trivial | refine ⟨rfl, ?_⟩)) (fun w hw => hw)
                      · have g130' := g130
                        try simp only [decide_eq_true_eq, decide_eq_false_iff_not, beq_iff_eq, beq_eq_false_iff_ne, bne_iff_ne, ne_eq, Bool.not_eq_true', Bool.not_eq_false', bne_eq_false_iff_eq, Bool.not_eq_eq_eq_not, Bool.not_true, Bool.not_false] at g130'
                        exact absurd (show (wFin targets.length k).getD (m : Int).toNat 0 = 550 by rw [hwf, if_pos (by omega)]) g130'
                    · have g123' := g123
                      try simp only [decide_eq_true_eq, decide_eq_false_iff_not, beq_iff_eq, beq_eq_false_iff_ne, bne_iff_ne, ne_eq, Bool.not_eq_true', Bool.not_eq_false', bne_eq_false_iff_eq, Bool.not_eq_eq_eq_not, Bool.not_true, Bool.not_false] at g123'
                      refine Ops.guard_no rfl rfl rfl rfl g123 ?_
                      refine Ops.guard_no rfl rfl rfl rfl g123 ?_
                      refine Ops.guard_no rfl rfl rfl rfl g123 ?_
                      refine Ops.guard_no rfl rfl rfl rfl g123 ?_
                      refine Ops.quiet (Qt.pick_f rfl rfl g123) rfl ?_
                      refine Ops.quiet (Qt.move rfl) rfl ?_
                      refine Ops.guard rfl rfl rfl rfl (fun g130 => ?_) (fun g130 => ?_)
                      · have g130' := g130
                        try simp only [decide_eq_true_eq, decide_eq_false_iff_not, beq_iff_eq, beq_eq_false_iff_ne, bne_iff_ne, ne_eq, Bool.not_eq_true', Bool.not_eq_false', bne_eq_false_iff_eq, Bool.not_eq_eq_eq_not, Bool.not_true, Bool.not_false] at g130'
                        refine Ops.quiet (Qt.move rfl) rfl ?_
                        refine Ops.guard_yes rfl rfl rfl rfl g130 ?_
                        refine Ops.quiet (Qt.move rfl) rfl ?_
                        refine Ops.guard_yes rfl rfl rfl rfl g130 ?_
                        refine Ops.quiet (Qt.neq rfl rfl) rfl ?_
                        refine Ops.guard_yes rfl rfl rfl rfl g130 ?_
                        refine Ops.quiet (Qt.move rfl) rfl ?_
                        refine Ops.guard rfl rfl rfl rfl (fun g134 => ?_) (fun g134 => ?_)
                        · have g134' := g134
                          try simp only [decide_eq_true_eq, decide_eq_false_iff_not, beq_iff_eq, beq_eq_false_iff_ne, bne_iff_ne, ne_eq, Bool.not_eq_true', Bool.not_eq_false', bne_eq_false_iff_eq, Bool.not_eq_eq_eq_not, Bool.not_true, Bool.not_false] at g134'
                          refine Ops.quiet (Qt.move rfl) rfl ?_
                          refine Ops.guard_yes rfl rfl rfl rfl g134 ?_
                          refine Ops.quiet (Qt.move rfl) rfl ?_
                          refine Ops.guard_yes rfl rfl rfl rfl g134 ?_
                          refine Ops.quiet (Qt.indexAddr rfl rfl (tk rfl) (tk rfl) rfl (Reads.clip (c := k113) (xs := (wFin targets.length k).map num) (by repeat (first | assumption | exact Reads.of_head | apply Reads.tail))) (by omega) (by omega)) rfl ?_
                          refine Ops.guard_yes rfl rfl rfl rfl g134 ?_
                          refine Ops.quiet (Qt.load_map (0 : Int) rfl (tk rfl) rfl (Reads.clip (c := k113) (by repeat (first | assumption | exact Reads.of_head | apply Reads.tail))) (by exact hm3)) rfl ?_
                          refine Ops.guard_yes rfl rfl rfl rfl g134 ?_
                          refine Ops.quiet (Qt.neq rfl rfl) rfl ?_
                          refine Ops.guard_yes rfl rfl rfl rfl g130 ?_
                          refine Ops.quiet (Qt.pick_t rfl rfl g134) rfl ?_
                          refine Ops.quiet (Qt.pick_f rfl rfl g130) rfl ?_
                          refine Ops.nil ?_
                          refine H.then_normal ?_
                          refine H.cond_false rfl (by rw [hwf, if_neg (by omega)]; rfl) ?_
                          refine H.skip ?_
                          refine H.blk_normal ?_
                          refine H.then_normal ?_
                          refine H.region ?_
                          refine Ops.quiet (Qt.move rfl) rfl ?_
                          refine Ops.quiet (Qt.addk rfl rfl (by first | exact IntWalk.i64_in _ (by omega) | exact IntWalk.u8_in _ (by omega) | exact IntWalk.u64_in _ (by omega) | exact IntWalk.u32_in _ (by omega) | exact IntWalk.u16_in _ (by omega))) rfl ?_
                          refine Ops.quiet (Qt.assign rfl) rfl ?_
                          refine Ops.nil ?_
                          refine H.then_normal ?_
                          refine H.round (m + 1) (by omega) (by omega) (by repeat (first | exact trivial | refine ⟨rfl, ?_⟩)) (fun w hw => hw)
                        · have g134' := g134
                          try simp only [decide_eq_true_eq, decide_eq_false_iff_not, beq_iff_eq, beq_eq_false_iff_ne, bne_iff_ne, ne_eq, Bool.not_eq_true', Bool.not_eq_false', bne_eq_false_iff_eq, Bool.not_eq_eq_eq_not, Bool.not_true, Bool.not_false] at g134'
                          exact absurd g123' (by simpa using g134')
                      · have g130' := g130
                        try simp only [decide_eq_true_eq, decide_eq_false_iff_not, beq_iff_eq, beq_eq_false_iff_ne, bne_iff_ne, ne_eq, Bool.not_eq_true', Bool.not_eq_false', bne_eq_false_iff_eq, Bool.not_eq_eq_eq_not, Bool.not_true, Bool.not_false] at g130'
                        exact Bool.noConfusion g130
                  · try simp only [decide_eq_true_eq, decide_eq_false_iff_not, beq_iff_eq, beq_eq_false_iff_ne, bne_iff_ne, ne_eq, Bool.not_eq_true', Bool.not_eq_false', bne_eq_false_iff_eq, Bool.not_eq_eq_eq_not, Bool.not_true, Bool.not_false] at h117
                    refine H.exit ?_
                    refine H.then_exit ?_
                    refine H.then_exit ?_
                    refine H.blk_hit ?_
                    refine H.then_normal ?_
                    refine H.seq ?_
                    refine H.region ?_
                    refine Ops.eff (Ef.call (fok fab_all rfl Tryd.func7 rfl) rfl (spec_answers w0 hG _)) rfl ?_
                    rintro _ c0 ⟨rfl, h0⟩; subst c0
                    refine Ops.quiet (Qt.move rfl) rfl ?_
                    refine Ops.guard rfl rfl rfl rfl (fun g143 => ?_) (fun g143 => ?_)
                    · have g143' := g143
                      try simp only [decide_eq_true_eq, decide_eq_false_iff_not, beq_iff_eq, beq_eq_false_iff_ne, bne_iff_ne, ne_eq, Bool.not_eq_true', Bool.not_eq_false', bne_eq_false_iff_eq, Bool.not_eq_eq_eq_not, Bool.not_true, Bool.not_false] at g143'
                      refine Ops.quiet (Qt.move rfl) rfl ?_
                      refine Ops.guard_yes rfl rfl rfl rfl g143 ?_
                      refine Ops.quiet (Qt.move rfl) rfl ?_
                      refine Ops.guard_yes rfl rfl rfl rfl g143 ?_
                      refine Ops.quiet (Qt.seq rfl rfl) rfl ?_
                      refine Ops.quiet (Qt.pick_t rfl rfl g143) rfl ?_
                      refine Ops.quiet (Qt.move rfl) rfl ?_
                      refine Ops.guard rfl rfl rfl rfl (fun g148 => ?_) (fun g148 => ?_)
                      · have g148' := g148
                        try simp only [decide_eq_true_eq, decide_eq_false_iff_not, beq_iff_eq, beq_eq_false_iff_ne, bne_iff_ne, ne_eq, Bool.not_eq_true', Bool.not_eq_false', bne_eq_false_iff_eq, Bool.not_eq_eq_eq_not, Bool.not_true, Bool.not_false] at g148'
                        refine Ops.quiet (Qt.move rfl) rfl ?_
                        refine Ops.guard_yes rfl rfl rfl rfl g148 ?_
                        refine Ops.eff (Ef.call (fok fab_all rfl Tryd.func15 rfl) rfl (sO _)) rfl ?_
                        rintro _ c0 ⟨rfl, h0⟩; subst c0
                        refine Ops.quiet (Qt.pick_t rfl rfl g148) rfl ?_
                        refine Ops.quiet (Qt.move rfl) rfl ?_
                        refine Ops.guard rfl rfl rfl rfl (fun g152 => ?_) (fun g152 => ?_)
                        · have g152' := g152
                          try simp only [decide_eq_true_eq, decide_eq_false_iff_not, beq_iff_eq, beq_eq_false_iff_ne, bne_iff_ne, ne_eq, Bool.not_eq_true', Bool.not_eq_false', bne_eq_false_iff_eq, Bool.not_eq_eq_eq_not, Bool.not_true, Bool.not_false] at g152'
                          refine Ops.quiet (Qt.move rfl) rfl ?_
                          refine Ops.guard_yes rfl rfl rfl rfl g152 ?_
                          refine Ops.quiet (Qt.len_sl (ats := #[]) rfl (tk rfl)) rfl ?_
                          refine Ops.guard_yes rfl rfl rfl rfl g152 ?_
                          refine Ops.quiet (Qt.move rfl) rfl ?_
                          refine Ops.guard_yes rfl rfl rfl rfl g152 ?_
                          refine Ops.quiet (Qt.len_sl (ats := #[]) rfl (tk rfl)) rfl ?_
                          refine Ops.guard_yes rfl rfl rfl rfl g152 ?_
                          refine Ops.quiet (Qt.eql rfl rfl) rfl ?_
                          refine Ops.quiet (Qt.pick_t rfl rfl g152) rfl ?_
                          refine Ops.quiet (Qt.assign rfl) rfl ?_
                          refine Ops.nil ?_
                          refine H.then_normal ?_
                          refine H.ret ?_
                          refine (H.ends rfl (.cons (.tmp rfl) .nil) ?_)
                          exact congrArg bol (beq_self_eq_true _)
                        · have g152' := g152
                          try simp only [decide_eq_true_eq, decide_eq_false_iff_not, beq_iff_eq, beq_eq_false_iff_ne, bne_iff_ne, ne_eq, Bool.not_eq_true', Bool.not_eq_false', bne_eq_false_iff_eq, Bool.not_eq_eq_eq_not, Bool.not_true, Bool.not_false] at g152'
                          exact Bool.noConfusion g152
                      · have g148' := g148
                        try simp only [decide_eq_true_eq, decide_eq_false_iff_not, beq_iff_eq, beq_eq_false_iff_ne, bne_iff_ne, ne_eq, Bool.not_eq_true', Bool.not_eq_false', bne_eq_false_iff_eq, Bool.not_eq_eq_eq_not, Bool.not_true, Bool.not_false] at g148'
                        exact absurd g148 (by simp)
                    · have g143' := g143
                      try simp only [decide_eq_true_eq, decide_eq_false_iff_not, beq_iff_eq, beq_eq_false_iff_ne, bne_iff_ne, ne_eq, Bool.not_eq_true', Bool.not_eq_false', bne_eq_false_iff_eq, Bool.not_eq_eq_eq_not, Bool.not_true, Bool.not_false] at g143'
                      exact Bool.noConfusion g143
              · have g101' := g101
                try simp only [decide_eq_true_eq, decide_eq_false_iff_not, beq_iff_eq, beq_eq_false_iff_ne, bne_iff_ne, ne_eq, Bool.not_eq_true', Bool.not_eq_false', bne_eq_false_iff_eq, Bool.not_eq_eq_eq_not, Bool.not_true, Bool.not_false] at g101'
                refine Ops.guard_no rfl rfl rfl rfl g101 ?_
                refine Ops.quiet (Qt.pick_t rfl rfl g101) rfl ?_
                refine Ops.nil ?_
                refine H.then_normal ?_
                refine H.cond_true rfl (by rfl) ?_
                refine H.region ?_
                refine Ops.quiet (Qt.move rfl) rfl ?_
                refine Ops.quiet (Qt.cat rfl rfl (by (try simp only [List.length_append, List.length_cons, List.length_nil]); omega)) rfl ?_
                refine Ops.quiet (Qt.move rfl) rfl ?_
                refine Ops.eff (Ef.call (fok fab_all rfl Tryd.func18 rfl) rfl (spec_rstuff w0 body _ (by repeat (first | assumption | exact Reads.of_head | apply Reads.tail)) (by omega))) rfl ?_
                rintro _ c0 ⟨rfl, h0⟩; subst c0
                refine Ops.quiet (Qt.cat rfl rfl (by (try simp only [List.length_append, List.length_cons, List.length_nil]); omega)) rfl ?_
                refine Ops.quiet (Qt.assign rfl) rfl ?_
                refine Ops.nil ?_
                refine H.then_normal ?_
                refine H.seq ?_
                refine H.region ?_
                refine Ops.quiet (Qt.move rfl) rfl ?_
                refine Ops.quiet (Qt.cat rfl rfl (by (try simp only [List.length_append, List.length_cons, List.length_nil]); omega)) rfl ?_
                refine Ops.quiet (Qt.assign rfl) rfl ?_
                refine Ops.nil ?_
                refine H.then_normal ?_
                refine H.seq ?_
                have e2 : (((wPre ++ wRc targets) ++ [68, 65, 84, 65, 13, 10]) ++ (stuffB body ++ [46, 13, 10])) ++ [81, 85, 73, 84, 13, 10] = wWant targets body k := by
                  unfold wWant
                  rw [if_pos (by omega)]
                  simp only [List.append_assoc]
                refine H.env (ESub.ok (e' := [(0, .slice tA targets.length tc), (1, .slice bA bn bc), (7, ptr b), (8, str (wWant targets body k)), (10, num k), (15, str (wWant targets body k))]) ?_) ?_
                · rw [← e2]
                  repeat (first | exact trivial | refine ⟨rfl, ?_⟩)
                refine H.region ?_
                refine Ops.quiet (Qt.move rfl) rfl ?_
                refine Ops.eff (Ef.call (fok fab_all rfl Tryd.func16 rfl) rfl (sC _)) rfl ?_
                rintro _ _ ⟨A113, rfl, k113, rfl⟩
                refine Ops.quiet (Qt.assign rfl) rfl ?_
                refine Ops.nil ?_
                refine H.then_normal ?_
                refine H.seq ?_
                refine H.seq ?_
                refine H.region ?_
                refine Ops.quiet (Qt.assign rfl) rfl ?_
                refine Ops.nil ?_
                refine H.then_normal ?_
                refine H.block ?_
                refine H.loop (X := Nat) (fun i => [(0, .slice tA targets.length tc), (7, ptr b), (8, str (wWant targets body k)), (10, num k), (15, str (wWant targets body k)), (17, .slice A113 targets.length targets.length), (18, num i)]) (fun i => client b Z :: osl 3 A113 targets.length k113 ((wFin targets.length k).map num) :: cs) (fun i => i ≤ targets.length) (fun i => targets.length - i) 0 (Nat.zero_le _) (by repeat (first | exact trivial | refine ⟨rfl, ?_⟩)) (fun w hw => hw) ?_
                intro m hm
                refine H.seq ?_
                refine H.seq ?_
                refine H.region ?_
                refine Ops.quiet (Qt.move rfl) rfl ?_
                refine Ops.quiet (Qt.move rfl) rfl ?_
                refine Ops.quiet (Qt.len_sl (ats := #[]) rfl (tk rfl)) rfl ?_
                refine Ops.quiet (Qt.lss rfl rfl) rfl ?_
                refine Ops.nil ?_
                refine H.then_normal ?_
                refine H.cond rfl (fun h117 => ?_) (fun h117 => ?_)
                · try simp only [decide_eq_true_eq, decide_eq_false_iff_not, beq_iff_eq, beq_eq_false_iff_ne, bne_iff_ne, ne_eq, Bool.not_eq_true', Bool.not_eq_false', bne_eq_false_iff_eq, Bool.not_eq_eq_eq_not, Bool.not_true, Bool.not_false] at h117
                  refine H.skip ?_
                  refine H.then_normal ?_
                  refine H.seq ?_
                  refine H.block ?_
                  refine H.seq ?_
                  have hm2 : m < (wFin targets.length k).length := by omega
                  have hm3 : (m : Int).toNat < (wFin targets.length k).length := hm2
                  have hwf : (wFin targets.length k).getD (m : Int).toNat 0 = if m = k then 550 else 250 := by
                    show (wFin targets.length k).getD m 0 = _
                    have hm4 : m < targets.length := by omega
                    simp [List.getD_eq_getElem?_getD, wFin, hm4]
                  refine H.region ?_
                  refine Ops.quiet (Qt.move rfl) rfl ?_
                  refine Ops.quiet (Qt.move rfl) rfl ?_
                  refine Ops.quiet (Qt.eql rfl rfl) rfl ?_
                  refine Ops.quiet (Qt.move rfl) rfl ?_
                  refine Ops.guard rfl rfl rfl rfl (fun g123 => ?_) (fun g123 => ?_)
                  · have g123' := g123
                    try simp only [decide_eq_true_eq, decide_eq_false_iff_not, beq_iff_eq, beq_eq_false_iff_ne, bne_iff_ne, ne_eq, Bool.not_eq_true', Bool.not_eq_false', bne_eq_false_iff_eq, Bool.not_eq_eq_eq_not, Bool.not_true, Bool.not_false] at g123'
                    refine Ops.quiet (Qt.move rfl) rfl ?_
                    refine Ops.guard_yes rfl rfl rfl rfl g123 ?_
                    refine Ops.quiet (Qt.move rfl) rfl ?_
                    refine Ops.guard_yes rfl rfl rfl rfl g123 ?_
                    refine Ops.quiet (Qt.indexAddr rfl rfl (tk rfl) (tk rfl) rfl (Reads.clip (c := k113) (xs := (wFin targets.length k).map num) (by repeat (first | assumption | exact Reads.of_head | apply Reads.tail))) (by omega) (by omega)) rfl ?_
                    refine Ops.guard_yes rfl rfl rfl rfl g123 ?_
                    refine Ops.quiet (Qt.load_map (0 : Int) rfl (tk rfl) rfl (Reads.clip (c := k113) (by repeat (first | assumption | exact Reads.of_head | apply Reads.tail))) (by exact hm3)) rfl ?_
                    refine Ops.guard_yes rfl rfl rfl rfl g123 ?_
                    refine Ops.quiet (Qt.neq rfl rfl) rfl ?_
                    refine Ops.quiet (Qt.pick_t rfl rfl g123) rfl ?_
                    refine Ops.quiet (Qt.move rfl) rfl ?_
                    refine Ops.guard rfl rfl rfl rfl (fun g130 => ?_) (fun g130 => ?_)
                    · have g130' := g130
                      try simp only [decide_eq_true_eq, decide_eq_false_iff_not, beq_iff_eq, beq_eq_false_iff_ne, bne_iff_ne, ne_eq, Bool.not_eq_true', Bool.not_eq_false', bne_eq_false_iff_eq, Bool.not_eq_eq_eq_not, Bool.not_true, Bool.not_false] at g130'
                      refine Ops.quiet (Qt.move rfl) rfl ?_
                      refine Ops.guard_yes rfl rfl rfl rfl g130 ?_
                      refine Ops.quiet (Qt.move rfl) rfl ?_
                      refine Ops.guard_yes rfl rfl rfl rfl g130 ?_
                      refine Ops.quiet (Qt.neq rfl rfl) rfl ?_
                      refine Ops.guard_yes rfl rfl rfl rfl g130 ?_
                      refine Ops.quiet (Qt.move rfl) rfl ?_
                      refine Ops.guard rfl rfl rfl rfl (fun g134 => ?_) (fun g134 => ?_)
                      · have g134' := g134
                        try simp only [decide_eq_true_eq, decide_eq_false_iff_not, beq_iff_eq, beq_eq_false_iff_ne, bne_iff_ne, ne_eq, Bool.not_eq_true', Bool.not_eq_false', bne_eq_false_iff_eq, Bool.not_eq_eq_eq_not, Bool.not_true, Bool.not_false] at g134'
                        exact absurd (show (m : Int) = k by omega) g134'
                      · have g134' := g134
                        try simp only [decide_eq_true_eq, decide_eq_false_iff_not, beq_iff_eq, beq_eq_false_iff_ne, bne_iff_ne, ne_eq, Bool.not_eq_true', Bool.not_eq_false', bne_eq_false_iff_eq, Bool.not_eq_eq_eq_not, Bool.not_true, Bool.not_false] at g134'
                        refine Ops.guard_no rfl rfl rfl rfl g134 ?_
                        refine Ops.guard_no rfl rfl rfl rfl g134 ?_
                        refine Ops.guard_no rfl rfl rfl rfl g134 ?_
                        refine Ops.guard_no rfl rfl rfl rfl g134 ?_
                        refine Ops.guard_yes rfl rfl rfl rfl g130 ?_
                        refine Ops.quiet (Qt.pick_f rfl rfl g134) rfl ?_
                        refine Ops.quiet (Qt.pick_f rfl rfl g130) rfl ?_
                        refine Ops.nil ?_
                        refine H.then_normal ?_
                        refine H.cond_false rfl (by rfl) ?_
                        refine H.skip ?_
                        refine H.blk_normal ?_
                        refine H.then_normal ?_
                        refine H.region ?_
                        refine Ops.quiet (Qt.move rfl) rfl ?_
                        refine Ops.quiet (Qt.addk rfl rfl (by first | exact IntWalk.i64_in _ (by omega) | exact IntWalk.u8_in _ (by omega) | exact IntWalk.u64_in _ (by omega) | exact IntWalk.u32_in _ (by omega) | exact IntWalk.u16_in _ (by omega))) rfl ?_
                        refine Ops.quiet (Qt.assign rfl) rfl ?_
                        refine Ops.nil ?_
                        refine H.then_normal ?_
                        refine H.round (m + 1) (by omega) (by omega) (by repeat (first | exact trivial | refine ⟨rfl, ?_⟩)) (fun w hw => hw)
                    · have g130' := g130
                      try simp only [decide_eq_true_eq, decide_eq_false_iff_not, beq_iff_eq, beq_eq_false_iff_ne, bne_iff_ne, ne_eq, Bool.not_eq_true', Bool.not_eq_false', bne_eq_false_iff_eq, Bool.not_eq_eq_eq_not, Bool.not_true, Bool.not_false] at g130'
                      exact absurd (show (wFin targets.length k).getD (m : Int).toNat 0 = 550 by rw [hwf, if_pos (by omega)]) g130'
                  · have g123' := g123
                    try simp only [decide_eq_true_eq, decide_eq_false_iff_not, beq_iff_eq, beq_eq_false_iff_ne, bne_iff_ne, ne_eq, Bool.not_eq_true', Bool.not_eq_false', bne_eq_false_iff_eq, Bool.not_eq_eq_eq_not, Bool.not_true, Bool.not_false] at g123'
                    refine Ops.guard_no rfl rfl rfl rfl g123 ?_
                    refine Ops.guard_no rfl rfl rfl rfl g123 ?_
                    refine Ops.guard_no rfl rfl rfl rfl g123 ?_
                    refine Ops.guard_no rfl rfl rfl rfl g123 ?_
                    refine Ops.quiet (Qt.pick_f rfl rfl g123) rfl ?_
                    refine Ops.quiet (Qt.move rfl) rfl ?_
                    refine Ops.guard rfl rfl rfl rfl (fun g130 => ?_) (fun g130 => ?_)
                    · have g130' := g130
                      try simp only [decide_eq_true_eq, decide_eq_false_iff_not, beq_iff_eq, beq_eq_false_iff_ne, bne_iff_ne, ne_eq, Bool.not_eq_true', Bool.not_eq_false', bne_eq_false_iff_eq, Bool.not_eq_eq_eq_not, Bool.not_true, Bool.not_false] at g130'
                      refine Ops.quiet (Qt.move rfl) rfl ?_
                      refine Ops.guard_yes rfl rfl rfl rfl g130 ?_
                      refine Ops.quiet (Qt.move rfl) rfl ?_
                      refine Ops.guard_yes rfl rfl rfl rfl g130 ?_
                      refine Ops.quiet (Qt.neq rfl rfl) rfl ?_
                      refine Ops.guard_yes rfl rfl rfl rfl g130 ?_
                      refine Ops.quiet (Qt.move rfl) rfl ?_
                      refine Ops.guard rfl rfl rfl rfl (fun g134 => ?_) (fun g134 => ?_)
                      · have g134' := g134
                        try simp only [decide_eq_true_eq, decide_eq_false_iff_not, beq_iff_eq, beq_eq_false_iff_ne, bne_iff_ne, ne_eq, Bool.not_eq_true', Bool.not_eq_false', bne_eq_false_iff_eq, Bool.not_eq_eq_eq_not, Bool.not_true, Bool.not_false] at g134'
                        refine Ops.quiet (Qt.move rfl) rfl ?_
                        refine Ops.guard_yes rfl rfl rfl rfl g134 ?_
                        refine Ops.quiet (Qt.move rfl) rfl ?_
                        refine Ops.guard_yes rfl rfl rfl rfl g134 ?_
                        refine Ops.quiet (Qt.indexAddr rfl rfl (tk rfl) (tk rfl) rfl (Reads.clip (c := k113) (xs := (wFin targets.length k).map num) (by repeat (first | assumption | exact Reads.of_head | apply Reads.tail))) (by omega) (by omega)) rfl ?_
                        refine Ops.guard_yes rfl rfl rfl rfl g134 ?_
                        refine Ops.quiet (Qt.load_map (0 : Int) rfl (tk rfl) rfl (Reads.clip (c := k113) (by repeat (first | assumption | exact Reads.of_head | apply Reads.tail))) (by exact hm3)) rfl ?_
                        refine Ops.guard_yes rfl rfl rfl rfl g134 ?_
                        refine Ops.quiet (Qt.neq rfl rfl) rfl ?_
                        refine Ops.guard_yes rfl rfl rfl rfl g130 ?_
                        refine Ops.quiet (Qt.pick_t rfl rfl g134) rfl ?_
                        refine Ops.quiet (Qt.pick_f rfl rfl g130) rfl ?_
                        refine Ops.nil ?_
                        refine H.then_normal ?_
                        refine H.cond_false rfl (by rw [hwf, if_neg (by omega)]; rfl) ?_
                        refine H.skip ?_
                        refine H.blk_normal ?_
                        refine H.then_normal ?_
                        refine H.region ?_
                        refine Ops.quiet (Qt.move rfl) rfl ?_
                        refine Ops.quiet (Qt.addk rfl rfl (by first | exact IntWalk.i64_in _ (by omega) | exact IntWalk.u8_in _ (by omega) | exact IntWalk.u64_in _ (by omega) | exact IntWalk.u32_in _ (by omega) | exact IntWalk.u16_in _ (by omega))) rfl ?_
                        refine Ops.quiet (Qt.assign rfl) rfl ?_
                        refine Ops.nil ?_
                        refine H.then_normal ?_
                        refine H.round (m + 1) (by omega) (by omega) (by repeat (first | exact trivial | refine ⟨rfl, ?_⟩)) (fun w hw => hw)
                      · have g134' := g134
                        try simp only [decide_eq_true_eq, decide_eq_false_iff_not, beq_iff_eq, beq_eq_false_iff_ne, bne_iff_ne, ne_eq, Bool.not_eq_true', Bool.not_eq_false', bne_eq_false_iff_eq, Bool.not_eq_eq_eq_not, Bool.not_true, Bool.not_false] at g134'
                        exact absurd g123' (by simpa using g134')
                    · have g130' := g130
                      try simp only [decide_eq_true_eq, decide_eq_false_iff_not, beq_iff_eq, beq_eq_false_iff_ne, bne_iff_ne, ne_eq, Bool.not_eq_true', Bool.not_eq_false', bne_eq_false_iff_eq, Bool.not_eq_eq_eq_not, Bool.not_true, Bool.not_false] at g130'
                      exact Bool.noConfusion g130
                · try simp only [decide_eq_true_eq, decide_eq_false_iff_not, beq_iff_eq, beq_eq_false_iff_ne, bne_iff_ne, ne_eq, Bool.not_eq_true', Bool.not_eq_false', bne_eq_false_iff_eq, Bool.not_eq_eq_eq_not, Bool.not_true, Bool.not_false] at h117
                  refine H.exit ?_
                  refine H.then_exit ?_
                  refine H.then_exit ?_
                  refine H.blk_hit ?_
                  refine H.then_normal ?_
                  refine H.seq ?_
                  refine H.region ?_
                  refine Ops.eff (Ef.call (fok fab_all rfl Tryd.func7 rfl) rfl (spec_answers w0 hG _)) rfl ?_
                  rintro _ c0 ⟨rfl, h0⟩; subst c0
                  refine Ops.quiet (Qt.move rfl) rfl ?_
                  refine Ops.guard rfl rfl rfl rfl (fun g143 => ?_) (fun g143 => ?_)
                  · have g143' := g143
                    try simp only [decide_eq_true_eq, decide_eq_false_iff_not, beq_iff_eq, beq_eq_false_iff_ne, bne_iff_ne, ne_eq, Bool.not_eq_true', Bool.not_eq_false', bne_eq_false_iff_eq, Bool.not_eq_eq_eq_not, Bool.not_true, Bool.not_false] at g143'
                    refine Ops.quiet (Qt.move rfl) rfl ?_
                    refine Ops.guard_yes rfl rfl rfl rfl g143 ?_
                    refine Ops.quiet (Qt.move rfl) rfl ?_
                    refine Ops.guard_yes rfl rfl rfl rfl g143 ?_
                    refine Ops.quiet (Qt.seq rfl rfl) rfl ?_
                    refine Ops.quiet (Qt.pick_t rfl rfl g143) rfl ?_
                    refine Ops.quiet (Qt.move rfl) rfl ?_
                    refine Ops.guard rfl rfl rfl rfl (fun g148 => ?_) (fun g148 => ?_)
                    · have g148' := g148
                      try simp only [decide_eq_true_eq, decide_eq_false_iff_not, beq_iff_eq, beq_eq_false_iff_ne, bne_iff_ne, ne_eq, Bool.not_eq_true', Bool.not_eq_false', bne_eq_false_iff_eq, Bool.not_eq_eq_eq_not, Bool.not_true, Bool.not_false] at g148'
                      refine Ops.quiet (Qt.move rfl) rfl ?_
                      refine Ops.guard_yes rfl rfl rfl rfl g148 ?_
                      refine Ops.eff (Ef.call (fok fab_all rfl Tryd.func15 rfl) rfl (sO _)) rfl ?_
                      rintro _ c0 ⟨rfl, h0⟩; subst c0
                      refine Ops.quiet (Qt.pick_t rfl rfl g148) rfl ?_
                      refine Ops.quiet (Qt.move rfl) rfl ?_
                      refine Ops.guard rfl rfl rfl rfl (fun g152 => ?_) (fun g152 => ?_)
                      · have g152' := g152
                        try simp only [decide_eq_true_eq, decide_eq_false_iff_not, beq_iff_eq, beq_eq_false_iff_ne, bne_iff_ne, ne_eq, Bool.not_eq_true', Bool.not_eq_false', bne_eq_false_iff_eq, Bool.not_eq_eq_eq_not, Bool.not_true, Bool.not_false] at g152'
                        refine Ops.quiet (Qt.move rfl) rfl ?_
                        refine Ops.guard_yes rfl rfl rfl rfl g152 ?_
                        refine Ops.quiet (Qt.len_sl (ats := #[]) rfl (tk rfl)) rfl ?_
                        refine Ops.guard_yes rfl rfl rfl rfl g152 ?_
                        refine Ops.quiet (Qt.move rfl) rfl ?_
                        refine Ops.guard_yes rfl rfl rfl rfl g152 ?_
                        refine Ops.quiet (Qt.len_sl (ats := #[]) rfl (tk rfl)) rfl ?_
                        refine Ops.guard_yes rfl rfl rfl rfl g152 ?_
                        refine Ops.quiet (Qt.eql rfl rfl) rfl ?_
                        refine Ops.quiet (Qt.pick_t rfl rfl g152) rfl ?_
                        refine Ops.quiet (Qt.assign rfl) rfl ?_
                        refine Ops.nil ?_
                        refine H.then_normal ?_
                        refine H.ret ?_
                        refine (H.ends rfl (.cons (.tmp rfl) .nil) ?_)
                        exact congrArg bol (beq_self_eq_true _)
                      · have g152' := g152
                        try simp only [decide_eq_true_eq, decide_eq_false_iff_not, beq_iff_eq, beq_eq_false_iff_ne, bne_iff_ne, ne_eq, Bool.not_eq_true', Bool.not_eq_false', bne_eq_false_iff_eq, Bool.not_eq_eq_eq_not, Bool.not_true, Bool.not_false] at g152'
                        exact Bool.noConfusion g152
                    · have g148' := g148
                      try simp only [decide_eq_true_eq, decide_eq_false_iff_not, beq_iff_eq, beq_eq_false_iff_ne, bne_iff_ne, ne_eq, Bool.not_eq_true', Bool.not_eq_false', bne_eq_false_iff_eq, Bool.not_eq_eq_eq_not, Bool.not_true, Bool.not_false] at g148'
                      exact absurd g148 (by simp)
                  · have g143' := g143
                    try simp only [decide_eq_true_eq, decide_eq_false_iff_not, beq_iff_eq, beq_eq_false_iff_ne, bne_iff_ne, ne_eq, Bool.not_eq_true', Bool.not_eq_false', bne_eq_false_iff_eq, Bool.not_eq_eq_eq_not, Bool.not_true, Bool.not_false] at g143'
                    exact Bool.noConfusion g143
    · have g27' := g27
      try simp only [decide_eq_true_eq, decide_eq_false_iff_not, beq_iff_eq, beq_eq_false_iff_ne, bne_iff_ne, ne_eq, Bool.not_eq_true', Bool.not_eq_false', bne_eq_false_iff_eq, Bool.not_eq_eq_eq_not, Bool.not_true, Bool.not_false] at g27'
      refine Ops.guard_no rfl rfl rfl rfl g27 ?_
      refine Ops.guard_no rfl rfl rfl rfl g27 ?_
      refine Ops.quiet (Qt.pick_t rfl rfl g27) rfl ?_
      refine Ops.nil ?_
      refine H.then_normal ?_
      refine H.cond_true rfl (by rfl) ?_
      refine H.seq ?_
      refine H.region ?_
      refine Ops.eff (Ef.call (fok fab_all rfl Tryd.func7 rfl) rfl (spec_answers w0 hG _)) rfl ?_
      rintro _ c0 ⟨rfl, h0⟩; subst c0
      refine Ops.quiet (Qt.assign rfl) rfl ?_
      refine Ops.nil ?_
      refine H.then_normal ?_
      refine H.ret ?_
      refine H.then_ret ?_
      refine (H.ends rfl (.cons (.tmp rfl) .nil) ?_)
      rfl
  · have g22' := g22
    try simp only [decide_eq_true_eq, decide_eq_false_iff_not, beq_iff_eq, beq_eq_false_iff_ne, bne_iff_ne, ne_eq, Bool.not_eq_true', Bool.not_eq_false', bne_eq_false_iff_eq, Bool.not_eq_eq_eq_not, Bool.not_true, Bool.not_false] at g22'
    refine Ops.guard_no rfl rfl rfl rfl g22 ?_
    refine Ops.guard_no rfl rfl rfl rfl g22 ?_
    refine Ops.quiet (Qt.pick_t rfl rfl g22) rfl ?_
    refine Ops.quiet (Qt.move rfl) rfl ?_
    refine Ops.guard rfl rfl rfl rfl (fun g27 => ?_) (fun g27 => ?_)
    · have g27' := g27
      try simp only [decide_eq_true_eq, decide_eq_false_iff_not, beq_iff_eq, beq_eq_false_iff_ne, bne_iff_ne, ne_eq, Bool.not_eq_true', Bool.not_eq_false', bne_eq_false_iff_eq, Bool.not_eq_eq_eq_not, Bool.not_true, Bool.not_false] at g27'
      exact Bool.noConfusion g27
    · have g27' := g27
      try simp only [decide_eq_true_eq, decide_eq_false_iff_not, beq_iff_eq, beq_eq_false_iff_ne, bne_iff_ne, ne_eq, Bool.not_eq_true', Bool.not_eq_false', bne_eq_false_iff_eq, Bool.not_eq_eq_eq_not, Bool.not_true, Bool.not_false] at g27'
      refine Ops.guard_no rfl rfl rfl rfl g27 ?_
      refine Ops.guard_no rfl rfl rfl rfl g27 ?_
      refine Ops.quiet (Qt.pick_t rfl rfl g27) rfl ?_
      refine Ops.nil ?_
      refine H.then_normal ?_
      refine H.cond_true rfl (by rfl) ?_
      refine H.seq ?_
      refine H.region ?_
      refine Ops.eff (Ef.call (fok fab_all rfl Tryd.func7 rfl) rfl (spec_answers w0 hG _)) rfl ?_
      rintro _ c0 ⟨rfl, h0⟩; subst c0
      refine Ops.quiet (Qt.assign rfl) rfl ?_
      refine Ops.nil ?_
      refine H.then_normal ?_
      refine H.ret ?_
      refine H.then_ret ?_
      refine (H.ends rfl (.cons (.tmp rfl) .nil) ?_)
      rfl
end Go.Proofs.YtimldpbddkhedaaDoor
