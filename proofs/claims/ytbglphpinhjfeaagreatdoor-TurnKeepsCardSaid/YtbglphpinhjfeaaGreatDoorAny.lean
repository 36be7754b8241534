/- A region whose order is drawn: quiet operations are taken first, effects as they become ready; a last stretch whose order is forced is run in the text's order. -/
import Derived.Test.YtbglphpinhjfeaaGreatDoorOpu
import Derived.StillTail
import Derived.Deep.Quiet
namespace Go.Proofs.YtbglphpinhjfeaaGreatDoor
open Go Go.RowKit
set_option linter.unusedVariables false
set_option linter.unusedSimpArgs false

def Qf : Exit → Act → World → Prop := fun _ _ _ => False
section
variable {P : Program} {ops : Array Oper} {md : Region.Mode} {C : World → Prop}
theorem upon_Qf {o : Oper} {a : Act} {K : Act → World → Prop} {Q : Exit → Act → World → Prop} {r : Result Next} (h : o.upon P a K Qf r) : o.upon P a K Q r := by
  cases r with
  | ok n w' =>
    cases n <;> simp only [Oper.upon] at h ⊢ <;>
      first
        | exact h
        | exact Calls.mono h (fun e w'' he => by cases e <;> first | exact he | exact he.elim | (obtain ⟨_, _, hf⟩ := he; exact hf.elim))
  | halt x w' => cases x <;> simp only [Oper.upon] at h ⊢ <;> exact h.elim
theorem wpOp_Qf {i : Nat} {a : Act} {w : World} {K : Act → World → Prop} {Q : Exit → Act → World → Prop} (h : wpOp P ops Qf i K a w) : wpOp P ops Q i K a w := by
  unfold wpOp at *
  cases ho : ops[i]? with
  | none => simpa [ho] using h
  | some o =>
    simp only [ho] at h ⊢
    split
    · rename_i hw
      simp only [hw, if_true] at h
      rcases h with h | ⟨_, _, _, hf⟩
      · exact .inl (upon_Qf h)
      · exact hf.elim
    · rename_i hw; simp only [hw] at h; exact h
theorem upon_put {o : Oper} {a : Act} {d : Option Tmp} {v : Value} {K : Act → World → Prop} {Y : Act → Prop} {r : Result Next} (hne : ∀ x, d = some x → o.dst ≠ some x) (hY : ∀ (ds : List Deferred) u, Y (Act.put ⟨a.tmps, ds⟩ o.dst u)) (h : o.upon P (a.put d v) K Qf r) :
    o.upon P a (fun a' w' => Y a' ∧ K (a'.put d v) w') Qf r := by
  have hp : ∀ u, (a.put d v).put o.dst u = (a.put o.dst u).put d v := fun u => Act.put_comm a v u hne
  have hy : ∀ u, Y (a.put o.dst u) := fun u => hY a.defers u
  cases r with
  | ok n w' =>
    cases n <;> simp only [Oper.upon] at h ⊢
    case value u => exact ⟨hy u, hp u ▸ h⟩
    case skip => exact ⟨hy undef, hp undef ▸ h⟩
    case defer dd =>
      refine ⟨hY _ _, ?_⟩
      have e1 : ({ a.put d v with defers := dd :: (a.put d v).defers } : Act) = ({ a with defers := dd :: a.defers } : Act).put d v := by cases d <;> rfl
      rw [e1, Act.put_comm _ v undef hne] at h
      exact h
    case enter f args =>
      refine h.mono fun e w'' he => ?_
      cases e with
      | returned u => exact ⟨hy u, hp u ▸ he⟩
      | panicked c => exact he.elim
      | outgrown => obtain ⟨_, _, hf⟩ := he; exact hf.elim
    case row row args => exact h.mono fun u w'' he => ⟨hy u, hp u ▸ he⟩
    all_goals exact h.elim
  | halt x w' => cases x <;> simp only [Oper.upon] at h ⊢ <;> exact h.elim

/-- In every world of the class the operation yields v and writes nothing, or it is passed over. -/
def Yl (P : Program) (ops : Array Oper) (C : World → Prop) (o : Oper) (v : Value) (a : Act) : Prop :=
  (Region.wanted o (yielded ops a.tmps) = true ∧ ∀ w, C w → (execOp a.eval o).run P w = .ok (.value v) w) ∨ (Region.wanted o (yielded ops a.tmps) = false ∧ v = undef)
theorem Yl.of_same {o : Oper} {v : Value} {a a' : Act} (hy : Yl P ops C o v a) (he : execOp a'.eval o = execOp a.eval o)
    (hw : Region.wanted o (yielded ops a'.tmps) = Region.wanted o (yielded ops a.tmps)) : Yl P ops C o v a' := by
  unfold Yl at *
  rw [he, hw]
  exact hy
theorem Yl.wpOp {i : Nat} {o : Oper} {v : Value} {a : Act} {w : World} {K : Act → World → Prop} (hi : ops[i]? = some o) (hC : C w) (hy : Yl P ops C o v a) (h : K (a.put o.dst v) w) : wpOp P ops Qf i K a w := by
  unfold Go.wpOp
  simp only [hi]
  rcases hy with ⟨h1, h2⟩ | ⟨h1, rfl⟩
  · simp only [h1, if_true]
    left
    unfold Oper.wp
    rw [h2 w hC]
    exact h
  · simp only [h1, Bool.false_eq_true, if_false]; exact h
theorem wpOp_put {j : Nat} {oi oj : Oper} {v : Value} (hj : ops[j]? = some oj) (hap : oi.apart ops oj = true) (hsi : ∀ cs b, oi.op ≠ .select cs b) (hsj : ∀ cs b, oj.op ≠ .select cs b) {K : Act → World → Prop} {a : Act} {w : World}
    (hy : Yl P ops C oi v a) (h : wpOp P ops Qf j K (a.put oi.dst v) w) : wpOp P ops Qf j (fun a' w' => Yl P ops C oi v a' ∧ K (a'.put oi.dst v) w') a w := by
  obtain ⟨h1, h2, h3⟩ := Oper.apart_spec hap
  have keep : ∀ (ds : List Deferred) u, Yl P ops C oi v (Act.put ⟨a.tmps, ds⟩ oj.dst u) := fun ds u => by
    have e0 : Yl P ops C oi v (⟨a.tmps, ds⟩ : Act) := hy
    exact e0.of_same (execOp_put oi hsi _ oj.dst u h3) (wanted_put oi _ oj.dst u h3)
  unfold wpOp at *
  simp only [hj] at *
  rw [wanted_put oj a oi.dst v h1] at h
  split
  · rename_i hw
    simp only [hw, if_true] at h
    rcases h with h | ⟨_, _, _, hf⟩
    · left
      unfold Oper.wp at *
      rw [execOp_put oj hsj a oi.dst v h1] at h
      exact upon_put h2 keep h
    · exact hf.elim
  · rename_i hw
    simp only [hw] at h
    exact ⟨keep a.defers _, by rw [← Act.put_comm a v undef h2]; exact h⟩

/-- Whatever order is picked from here on among the head (below n); L behind it. Every world on the way is of the class. -/
def wpH (P : Program) (ops : Array Oper) (C : World → Prop) (n : Nat) (L : Array Bool → Act → World → Prop) : Nat → Array Bool → Act → World → Prop
  | 0, listed, a, w => L listed a w
  | f + 1, listed, a, w => C w ∧ Region.ready .any ops listed ≠ [] ∧ ∀ i ∈ Region.ready .any ops listed, i < n ∧ wpOp P ops Qf i (wpH P ops C n L f (listed.setIfInBounds i true)) a w
theorem wpH_any {n g : Nat} {L : Array Bool → Act → World → Prop} {Q : Exit → Act → World → Prop} (hL : ∀ listed a w, L listed a w → wpAny P .any ops Q g listed a w) :
    ∀ (f : Nat) (listed : Array Bool) (a : Act) (w : World), wpH P ops C n L f listed a w → wpAny P .any ops Q (f + g) listed a w
  | 0, listed, a, w, h => by rw [Nat.zero_add]; exact hL _ _ _ h
  | f + 1, listed, a, w, h => by
    rw [show f + 1 + g = (f + g) + 1 by omega]
    exact ⟨fun h0 => absurd h0 h.2.1, fun i hi => wpOp_mono (fun a' w' h' => wpH_any hL f _ a' w' h') (wpOp_Qf (h.2.2 i hi).2)⟩
/-- The tail waits for the head. -/
def tailB (ops : Array Oper) (n : Nat) : Bool := Nat.beq n ops.size || (Nat.blt n ops.size && Region.sinkB .any ops n && Region.chainB .any ops n)
theorem tail_wait {n i : Nat} {listed : Array Bool} (hB : tailB ops n = true) (inv : HeadInv .any ops n listed) (hin : i < n) (hun : listed.getD i true = false) {j : Nat} (hj : j ∈ Region.ready .any ops listed) : j < n := by
  rcases Nat.lt_or_ge j n with h | h
  · exact h
  · simp only [tailB, Bool.or_eq_true, Bool.and_eq_true, Nat.beq_eq] at hB
    rcases hB with hB | ⟨⟨hB1, hB2⟩, hB3⟩
    · obtain ⟨_, oj, hoj, _⟩ := mem_ready.1 hj
      have := (Array.getElem?_eq_some_iff.1 hoj).1
      omega
    · have hn : n < ops.size := by simpa using hB1
      exact absurd hj (tail_waits hB2 hB3 hn inv _ i rfl hin hun j h)
theorem wpH_first {n i : Nat} {oi : Oper} {v : Value} {L : Array Bool → Act → World → Prop} (hi : ops[i]? = some oi) (hsel : ∀ (j : Nat) (o : Oper) cs b, ops[j]? = some o → o.op ≠ .select cs b)
    (hB : tailB ops n = true) (hin : i < n) (hdone : ∀ listed a w, L listed a w → C w ∧ ∀ j ∈ Region.ready .any ops listed, n ≤ j) :
    ∀ (f : Nat) (listed : Array Bool) (a : Act) (w : World), HeadInv .any ops n listed →
      (∀ j oj, ops[j]? = some oj → j ≠ i → listed.getD j true = false → (∀ e ∈ oj.after, Region.binds .any e = true → e.on ≠ i) → oi.apart ops oj = true) →
      i ∈ Region.ready .any ops listed → Yl P ops C oi v a →
      wpH P ops C n L f (listed.setIfInBounds i true) (a.put oi.dst v) w → wpH P ops C n L (f + 1) listed a w := by
  intro f
  induction f with
  | zero =>
    intro listed a w inv _ hr hy H
    have hun := (mem_ready.1 hr).1
    obtain ⟨hC, hd⟩ := hdone _ _ _ H
    refine ⟨hC, fun h => (by rw [h] at hr; cases hr), fun j hj => ?_⟩
    have hjn := tail_wait hB inv hin hun hj
    refine ⟨hjn, ?_⟩
    by_cases hji : j = i
    · subst hji; exact hy.wpOp hi hC H
    · have := hd j (ready_mono hj hji)
      omega
  | succ f ih =>
    intro listed a w inv hfree hr hy H
    have hun := (mem_ready.1 hr).1
    refine ⟨H.1, fun h => (by rw [h] at hr; cases hr), fun j hj => ?_⟩
    have hjn := tail_wait hB inv hin hun hj
    refine ⟨hjn, ?_⟩
    by_cases hji : j = i
    · subst hji; exact hy.wpOp hi H.1 H
    · have h1 := (H.2.2 j (ready_mono hj hji)).2
      obtain ⟨hjun, oj, hoj, hall⟩ := mem_ready.1 hj
      have hnot : ∀ e ∈ oj.after, Region.binds .any e = true → e.on ≠ i := fun e he hb heq => by
        have h1 := hall e he hb
        rw [heq, getD_both hun] at h1
        cases h1
      have h2 := wpOp_put hoj (hfree j oj hoj hji hjun hnot) (fun cs b => hsel i oi cs b hi) (fun cs b => hsel j oj cs b hoj) hy h1
      have hfree' : ∀ k ok, ops[k]? = some ok → k ≠ i → (listed.setIfInBounds j true).getD k true = false →
          (∀ e ∈ ok.after, Region.binds .any e = true → e.on ≠ i) → oi.apart ops ok = true := fun k ok hk hki hun hno => by
        refine hfree k ok hk hki ?_ hno
        by_cases hjk : j = k
        · subst hjk; exact hjun
        · rw [getD_set_ne true hjk] at hun; exact hun
      refine wpOp_mono (fun a' w' h3 => ih (listed.setIfInBounds j true) a' w' (inv.set hj hjn) hfree' (ready_mono hr (Ne.symm hji)) h3.1 ?_) h2
      rw [Array.setIfInBounds_comm _ _ hji]
      exact h3.2

/-! ### As a judgment: the listed ones are a list of marks -/
/-- Behind the head: the tail in the text's order. -/
def Lt (P : Program) (w0 : World) (l : List Oper) (Q : Exit → Act → World → Prop) (pin : List SProp) (n : Nat) (listed : Array Bool) (a : Act) (w : World) : Prop :=
  Own w0 w pin ∧ Region.seqB .any l.toArray (l.length - n) n listed = true ∧ wpList P l.toArray Q (l.drop n) a w
/-- The head's rest. -/
def Hd (P : Program) (N : Nat) (w0 : World) (l : List Oper) (Q : Exit → Act → World → Prop) (pin : List SProp) (n f : Nat) (listed : List Bool) (e : Env) (cs : List SProp) : Prop :=
  HeadInv .any l.toArray n listed.toArray → H N w0 e cs (wpH P l.toArray (fun w => Own w0 w pin) n (Lt P w0 l Q pin n) f listed.toArray)
def drawnB (l : List Oper) (n : Nat) : Bool := Region.noSelect l.toArray && tailB l.toArray n && Nat.ble n l.length
end

section
variable {P : Program} {N : Nat} {w0 : World} {e : Env} {cs pin : List SProp} {Q : Exit → Act → World → Prop} {l : List Oper} {n f : Nat} {listed : List Bool}
theorem H.drawn {id : Nat} (pin : List SProp) (n : Nat) (hm : P.follows .mixedOrders = true) (hB : drawnB l n = true) (h : Hd P N w0 l Q pin n n (List.replicate l.length false) e cs) : H N w0 e cs ((Code.region id l.toArray true).wp P Q) := by
  intro a w he ho
  simp only [drawnB, Bool.and_eq_true, Nat.ble_eq] at hB
  obtain ⟨⟨hsel, ht⟩, hn⟩ := hB
  refine wp_region_any hm ?_
  have inv0 : HeadInv .any l.toArray n (List.replicate l.length false).toArray := by
    have e0 : (List.replicate l.length false).toArray = Array.replicate l.toArray.size false := by simp
    rw [e0]
    exact ⟨by simp, fun j oj _ hl => (by rw [getD_replicate_false] at hl; cases hl), fun t _ ht => getD_in (by simpa using ht) (getD_replicate_false _ _)⟩
  have hw : Own w0 { w with drawn := w.drawn + 1 } cs := ho.same ⟨rfl, rfl, rfl, Nat.le_refl _, fun _ _ _ => rfl⟩
  have := wpH_any (Q := Q) (g := l.length - n) (fun listed a' w' (hL : Lt P w0 l Q pin n listed a' w') => by
    have := wpAny_of_seq (md := .any) (Q' := Q) (l.drop n) n listed a' w' (fun j => by simp [List.getElem?_drop]) (by simpa using hL.2.1) hL.2.2
    simpa using this) _ _ _ _ (h inv0 a _ he hw)
  rw [show n + (l.length - n) = l.toArray.size by simp; omega] at this
  simpa using this
theorem H.drawn_all {id : Nat} (n : Nat) (hm : P.follows .mixedOrders = true) (hB : drawnB l n = true) (h : Hd P N w0 l Q cs n n (List.replicate l.length false) e cs) : H N w0 e cs ((Code.region id l.toArray true).wp P Q) := H.drawn cs n hm hB h
theorem Hd.conv {cs' : List SProp} (hc : ∀ w, Own w0 w cs → Own w0 w cs') (h : Hd P N w0 l Q pin n f listed e cs') : Hd P N w0 l Q pin n f listed e cs := fun inv a w he ho => h inv a w he (hc w ho)
/-- A slot's bool: the case is split. -/
theorem Hd.case {d : Nat} {t : Bool} (hv : lk e d = some (.bool t)) (hy : t = true → Hd P N w0 l Q pin n f listed e cs) (hn : t = false → Hd P N w0 l Q pin n f listed e cs) : Hd P N w0 l Q pin n f listed e cs := by
  cases t
  · exact hn rfl
  · exact hy rfl
/-- A quiet operation that is ready is taken first. -/
theorem Hd.quiet (i : Nat) {d : Option Tmp} {o : Op} {ty : TypeId} {pos : String} {after : Array Edge} {v : Value} (hB : drawnB l n = true) (hi : l[i]? = some ⟨d, o, ty, pos, after, none⟩) (hin : Nat.blt i n = true)
    (hr : ((Region.ready .any l.toArray listed.toArray).contains i && Region.free .any l.toArray listed.toArray i) = true) (hd : dstOk N d = true) (hq : Qt P N w0 e pin o ty v)
    (h : Hd P N w0 l Q pin n f (listed.set i true) (put e d v) cs) : Hd P N w0 l Q pin n (f + 1) listed e cs := by
  intro inv a w he ho
  simp only [drawnB, Bool.and_eq_true, Nat.ble_eq] at hB
  obtain ⟨⟨hsel, ht⟩, hn⟩ := hB
  simp only [Bool.and_eq_true] at hr
  obtain ⟨hr1, hr2⟩ := hr
  have hr' : i ∈ Region.ready .any l.toArray listed.toArray := by simpa using hr1
  have hin' : i < n := by simpa using hin
  have hi' : l.toArray[i]? = some ⟨d, o, ty, pos, after, none⟩ := by simpa using hi
  have inv' := inv.set hr' hin'
  have hset : (listed.set i true).toArray = listed.toArray.setIfInBounds i true := by simp
  refine wpH_first (C := fun w => Own w0 w pin) hi' (Region.noSelect_spec hsel) ht hin' (fun listed' a' w' hL => ⟨hL.1, seqB_ready hL.2.1⟩) f listed.toArray a w inv (Region.free_spec hi' hr2) hr'
    (.inl ⟨rfl, fun w' hw' => hq a w' he hw' _ rfl rfl⟩) ?_
  have := h (by rw [hset]; exact inv') _ w (he.put hd v) ho
  rwa [hset] at this
/-- A guarded operation that is ready: its guard's value is known, or the case is split. -/
theorem Hd.guard (i : Nat) {d : Option Tmp} {o : Op} {ty : TypeId} {pos : String} {after : Array Edge} {v : Value} {j : Nat} {dj : Tmp} {want t : Bool} (hB : drawnB l n = true) (hi : l[i]? = some ⟨d, o, ty, pos, after, some (j, want)⟩) (hin : Nat.blt i n = true)
    (hr : ((Region.ready .any l.toArray listed.toArray).contains i && Region.free .any l.toArray listed.toArray i) = true) (hd : dstOk N d = true) (hj : (l.toArray[j]?).bind (·.dst) = some dj) (hN : Nat.blt dj N = true) (hv : lk e dj = some (.bool t))
    (hq : t = want → Qt P N w0 e pin o ty v) (hy : t = want → Hd P N w0 l Q pin n f (listed.set i true) (put e d v) cs) (hn' : t = (!want) → Hd P N w0 l Q pin n f (listed.set i true) (put e d undef) cs) : Hd P N w0 l Q pin n (f + 1) listed e cs := by
  intro inv a w he ho
  simp only [drawnB, Bool.and_eq_true, Nat.ble_eq] at hB
  obtain ⟨⟨hsel, ht⟩, hn⟩ := hB
  simp only [Bool.and_eq_true] at hr
  obtain ⟨hr1, hr2⟩ := hr
  have hr' : i ∈ Region.ready .any l.toArray listed.toArray := by simpa using hr1
  have hin' : i < n := by simpa using hin
  have hi' : l.toArray[i]? = some ⟨d, o, ty, pos, after, some (j, want)⟩ := by simpa using hi
  have inv' := inv.set hr' hin'
  have hset : (listed.set i true).toArray = listed.toArray.setIfInBounds i true := by simp
  have hyd := yielded_of (ops := l.toArray) he hj hN hv
  by_cases htw : t = want
  · refine wpH_first (C := fun w => Own w0 w pin) (v := v) hi' (Region.noSelect_spec hsel) ht hin' (fun listed' a' w' hL => ⟨hL.1, seqB_ready hL.2.1⟩) f listed.toArray a w inv (Region.free_spec hi' hr2) hr'
      (.inl ⟨by simp [Region.wanted, hyd, htw], fun w' hw' => hq htw a w' he hw' _ rfl rfl⟩) ?_
    have := hy htw (by rw [hset]; exact inv') _ w (he.put hd v) ho
    rwa [hset] at this
  · have hne : t = (!want) := by cases t <;> cases want <;> first | rfl | exact absurd rfl htw
    refine wpH_first (C := fun w => Own w0 w pin) (v := undef) hi' (Region.noSelect_spec hsel) ht hin' (fun listed' a' w' hL => ⟨hL.1, seqB_ready hL.2.1⟩) f listed.toArray a w inv (Region.free_spec hi' hr2) hr'
      (.inr ⟨by simp [Region.wanted, hyd, htw], rfl⟩) ?_
    have := hn' hne (by rw [hset]; exact inv') _ w (he.put hd undef) ho
    rwa [hset] at this
theorem Hd.guard_un (i : Nat) {d : Option Tmp} {o : Op} {ty : TypeId} {pos : String} {after : Array Edge} {j : Nat} {dj : Tmp} {want : Bool} (hB : drawnB l n = true) (hi : l[i]? = some ⟨d, o, ty, pos, after, some (j, want)⟩) (hin : Nat.blt i n = true)
    (hr : ((Region.ready .any l.toArray listed.toArray).contains i && Region.free .any l.toArray listed.toArray i) = true) (hd : dstOk N d = true) (hj : (l.toArray[j]?).bind (·.dst) = some dj) (hN : Nat.blt dj N = true) (hv : lk e dj = some undef)
    (hn' : Hd P N w0 l Q pin n f (listed.set i true) (put e d undef) cs) : Hd P N w0 l Q pin n (f + 1) listed e cs := by
  intro inv a w he ho
  simp only [drawnB, Bool.and_eq_true, Nat.ble_eq] at hB
  obtain ⟨⟨hsel, ht⟩, hn⟩ := hB
  simp only [Bool.and_eq_true] at hr
  obtain ⟨hr1, hr2⟩ := hr
  have hr' : i ∈ Region.ready .any l.toArray listed.toArray := by simpa using hr1
  have hin' : i < n := by simpa using hin
  have hi' : l.toArray[i]? = some ⟨d, o, ty, pos, after, some (j, want)⟩ := by simpa using hi
  have inv' := inv.set hr' hin'
  have hset : (listed.set i true).toArray = listed.toArray.setIfInBounds i true := by simp
  have hyd := yielded_un (ops := l.toArray) he hj hN hv
  refine wpH_first (C := fun w => Own w0 w pin) (v := undef) hi' (Region.noSelect_spec hsel) ht hin' (fun listed' a' w' hL => ⟨hL.1, seqB_ready hL.2.1⟩) f listed.toArray a w inv (Region.free_spec hi' hr2) hr'
    (.inr ⟨by simp [Region.wanted, hyd], rfl⟩) ?_
  have := hn' (by rw [hset]; exact inv') _ w (he.put hd undef) ho
  rwa [hset] at this
theorem Hd.guard_yes (i : Nat) {d : Option Tmp} {o : Op} {ty : TypeId} {pos : String} {after : Array Edge} {v : Value} {j : Nat} {dj : Tmp} {want t : Bool} (hB : drawnB l n = true) (hi : l[i]? = some ⟨d, o, ty, pos, after, some (j, want)⟩) (hin : Nat.blt i n = true)
    (hr : ((Region.ready .any l.toArray listed.toArray).contains i && Region.free .any l.toArray listed.toArray i) = true) (hd : dstOk N d = true) (hj : (l.toArray[j]?).bind (·.dst) = some dj) (hN : Nat.blt dj N = true) (hv : lk e dj = some (.bool t)) (ht : t = want)
    (hq : Qt P N w0 e pin o ty v) (hy : Hd P N w0 l Q pin n f (listed.set i true) (put e d v) cs) : Hd P N w0 l Q pin n (f + 1) listed e cs :=
  Hd.guard i hB hi hin hr hd hj hN hv (fun _ => hq) (fun _ => hy) (fun h => guard_ne ht h)
theorem Hd.guard_no (i : Nat) {d : Option Tmp} {o : Op} {ty : TypeId} {pos : String} {after : Array Edge} {j : Nat} {dj : Tmp} {want t : Bool} (hB : drawnB l n = true) (hi : l[i]? = some ⟨d, o, ty, pos, after, some (j, want)⟩) (hin : Nat.blt i n = true)
    (hr : ((Region.ready .any l.toArray listed.toArray).contains i && Region.free .any l.toArray listed.toArray i) = true) (hd : dstOk N d = true) (hj : (l.toArray[j]?).bind (·.dst) = some dj) (hN : Nat.blt dj N = true) (hv : lk e dj = some (.bool t)) (ht : t = (!want))
    (hn : Hd P N w0 l Q pin n f (listed.set i true) (put e d undef) cs) : Hd P N w0 l Q pin n (f + 1) listed e cs :=
  Hd.guard (v := undef) i hB hi hin hr hd hj hN hv (fun h => guard_ne h ht) (fun h => guard_ne h ht) (fun _ => hn)
/-- One operation with an effect is ready, and no other. -/
theorem Hd.eff (i : Nat) {d : Option Tmp} {o : Op} {ty : TypeId} {pos : String} {after : Array Edge} {R : Value → List SProp → Prop} (hpin : ∀ w, Own w0 w cs → Own w0 w pin) (hi : l[i]? = some ⟨d, o, ty, pos, after, none⟩) (hin : Nat.blt i n = true)
    (hr : Region.ready .any l.toArray listed.toArray = [i]) (hd : dstOk N d = true) (hq : Ef P N w0 e cs o ty R)
    (h : ∀ v cs', R v cs' → Hd P N w0 l Q pin n f (listed.set i true) (put e d v) cs') : Hd P N w0 l Q pin n (f + 1) listed e cs := by
  intro inv a w he ho
  have hin' : i < n := by simpa using hin
  have hi' : l.toArray[i]? = some ⟨d, o, ty, pos, after, none⟩ := by simpa using hi
  have hr' : i ∈ Region.ready .any l.toArray listed.toArray := by rw [hr]; simp
  have inv' := inv.set hr' hin'
  have hset : (listed.set i true).toArray = listed.toArray.setIfInBounds i true := by simp
  refine ⟨hpin w ho, by rw [hr]; simp, fun j hj => ?_⟩
  rw [hr] at hj
  have : j = i := by simpa using hj
  subst this
  refine ⟨hin', ?_⟩
  unfold wpOp
  simp only [hi', Region.wanted, if_true]
  left
  exact hq a w he ho _ rfl rfl _ _ fun v cs' w' hR ho' => by
    have := h v cs' hR (by rw [hset]; exact inv') _ w' (he.put hd v) ho'
    rwa [hset] at this
/-- The one with an effect that is ready, its guard met. -/
theorem Hd.eff_g (i : Nat) {d : Option Tmp} {o : Op} {ty : TypeId} {pos : String} {after : Array Edge} {R : Value → List SProp → Prop} {j : Nat} {dj : Tmp} {want t : Bool} (hpin : ∀ w, Own w0 w cs → Own w0 w pin) (hi : l[i]? = some ⟨d, o, ty, pos, after, some (j, want)⟩) (hin : Nat.blt i n = true)
    (hr : Region.ready .any l.toArray listed.toArray = [i]) (hd : dstOk N d = true) (hj : (l.toArray[j]?).bind (·.dst) = some dj) (hN : Nat.blt dj N = true) (hv : lk e dj = some (.bool t)) (ht : t = want) (hq : Ef P N w0 e cs o ty R)
    (h : ∀ v cs', R v cs' → Hd P N w0 l Q pin n f (listed.set i true) (put e d v) cs') : Hd P N w0 l Q pin n (f + 1) listed e cs := by
  intro inv a w he ho
  have hin' : i < n := by simpa using hin
  have hi' : l.toArray[i]? = some ⟨d, o, ty, pos, after, some (j, want)⟩ := by simpa using hi
  have hr' : i ∈ Region.ready .any l.toArray listed.toArray := by rw [hr]; simp
  have inv' := inv.set hr' hin'
  have hset : (listed.set i true).toArray = listed.toArray.setIfInBounds i true := by simp
  have hyd := yielded_of (ops := l.toArray) he hj hN hv
  refine ⟨hpin w ho, by rw [hr]; simp, fun j' hj' => ?_⟩
  rw [hr] at hj'
  have : j' = i := by simpa using hj'
  subst this
  refine ⟨hin', ?_⟩
  unfold wpOp
  simp only [hi', Region.wanted, hyd, ht, beq_self_eq_true, if_true]
  left
  exact hq a w he ho _ rfl rfl _ _ fun v cs' w' hR ho' => by
    have := h v cs' hR (by rw [hset]; exact inv') _ w' (he.put hd v) ho'
    rwa [hset] at this
/-- Two operations with effects are ready. -/
theorem Hd.eff2 (i k : Nat) {d d' : Option Tmp} {o o' : Op} {ty ty' : TypeId} {pos pos' : String} {after after' : Array Edge} {R R' : Value → List SProp → Prop} (hpin : ∀ w, Own w0 w cs → Own w0 w pin) (hi : l[i]? = some ⟨d, o, ty, pos, after, none⟩) (hk : l[k]? = some ⟨d', o', ty', pos', after', none⟩) (hin : Nat.blt i n = true) (hkn : Nat.blt k n = true)
    (hr : Region.ready .any l.toArray listed.toArray = [i, k]) (hd : dstOk N d = true) (hd' : dstOk N d' = true) (hq : Ef P N w0 e cs o ty R) (hq' : Ef P N w0 e cs o' ty' R')
    (h : ∀ v cs', R v cs' → Hd P N w0 l Q pin n f (listed.set i true) (put e d v) cs') (h' : ∀ v cs', R' v cs' → Hd P N w0 l Q pin n f (listed.set k true) (put e d' v) cs') : Hd P N w0 l Q pin n (f + 1) listed e cs := by
  intro inv a w he ho
  have hin' : i < n := by simpa using hin
  have hkn' : k < n := by simpa using hkn
  have hi' : l.toArray[i]? = some ⟨d, o, ty, pos, after, none⟩ := by rw [List.getElem?_toArray]; exact hi
  have hk' : l.toArray[k]? = some ⟨d', o', ty', pos', after', none⟩ := by rw [List.getElem?_toArray]; exact hk
  have inv1 := inv.set (show i ∈ Region.ready .any l.toArray listed.toArray by rw [hr]; simp) hin'
  have inv2 := inv.set (show k ∈ Region.ready .any l.toArray listed.toArray by rw [hr]; simp) hkn'
  have hset : ∀ i, (listed.set i true).toArray = listed.toArray.setIfInBounds i true := fun i => by simp
  refine ⟨hpin w ho, by rw [hr]; simp, fun j hj => ?_⟩
  rw [hr] at hj
  have hj : j = i ∨ j = k := by simpa using hj
  rcases hj with rfl | rfl
  · refine ⟨hin', ?_⟩
    unfold wpOp
    simp only [hi', Region.wanted, if_true]
    left
    exact hq a w he ho _ rfl rfl _ _ fun v cs' w' hR ho' => by
      have := h v cs' hR (by rw [hset]; exact inv1) _ w' (he.put hd v) ho'
      rwa [hset] at this
  · refine ⟨hkn', ?_⟩
    unfold wpOp
    simp only [hk', Region.wanted, if_true]
    left
    exact hq' a w he ho _ rfl rfl _ _ fun v cs' w' hR ho' => by
      have := h' v cs' hR (by rw [hset]; exact inv2) _ w' (he.put hd' v) ho'
      rwa [hset] at this
/-- The head is done: the tail follows, in the text's order. -/
theorem Hd.tail {l' : List Oper} (hpin : ∀ w, Own w0 w cs → Own w0 w pin) (hs : Region.seqB .any l.toArray (l.length - n) n listed.toArray = true) (hl : l.drop n = l') (h : Ops P N w0 l.toArray l' Q e cs) : Hd P N w0 l Q pin n 0 listed e cs := by
  intro inv a w he ho
  exact ⟨hpin w ho, hs, by rw [hl]; exact h a w he ho⟩
end

/-! ### The end of a function -/
def resRun (a : Act) : ResultVar → Sem Value
  | .tmp t => pure (a.tmps.getD t undef)
  | .cell p t => do loadVar t (← asAddr (a.tmps.getD p undef))
def ResOk (P : Program) (N : Nat) (w0 : World) (e : Env) (cs : List SProp) (r : ResultVar) (v : Value) : Prop :=
  ∀ a w, EnvOK N e a → Own w0 w cs → (resRun a r).run P w = .ok v w
section
variable {P : Program} {N : Nat} {w0 : World} {e : Env} {cs : List SProp}
theorem ResOk.tmp {t : Tmp} {v : Value} (h : lk e t = some v) : ResOk P N w0 e cs (.tmp t) v := by
  intro a w he ho
  show Result.ok (a.tmps.getD t undef) w = _
  rw [he.look t v h]
theorem ResOk.cell {p : Tmp} {t b o : Nat} {ti : TI} {cur : List Value} {bt : TypeId} {v : Value} (h : lk e p = some (.pointer (some ⟨b, o, none⟩))) (hT : TOk P t ti) (hg : ti.d.agg = false) (hm : blk b cur bt ∈ cs) (hv : cur[o]? = some v) : ResOk P N w0 e cs (.cell p t) v := by
  intro a w he ho
  simp only [resRun, he.look p _ h, asAddr, Sem.run_bind, Sem.run_pure, Result.andThen_ok]
  exact run_loadVar_one hT hg ((ho.blk_cell hm o).trans hv)
theorem ResOk.agg {p : Tmp} {t b o : Nat} {ti : TI} {cur : List Value} {bt : TypeId} {vs : List Value} (h : lk e p = some (.pointer (some ⟨b, o, none⟩))) (hT : TOk P t ti) (hg : ti.d.agg = true) (hm : blk b cur bt ∈ cs) (hv : (cur.drop o).take ti.size = vs) (hl : vs.length = ti.size) : ResOk P N w0 e cs (.cell p t) (.agg vs.toArray) := by
  intro a w he ho
  have : ∀ j v, vs[j]? = some v → w.cell? ((⟨b, o, none⟩ : Addr).add j) = some v := by
    intro j v hj
    have hlt := (List.getElem?_eq_some_iff.1 hj).1
    rw [add_lit, ho.blk_cell hm]
    rw [← hv, List.getElem?_take_of_lt (by omega), List.getElem?_drop] at hj
    exact hj
  simp only [resRun, he.look p _ h, asAddr, Sem.run_bind, Sem.run_pure, Result.andThen_ok]
  exact run_loadVar_agg hT hg hl this
def ResAll (P : Program) (N : Nat) (w0 : World) (e : Env) (cs : List SProp) : List ResultVar → List Value → Prop
  | [], vs => vs = []
  | r :: rs, vs => ∃ v us, vs = v :: us ∧ ResOk P N w0 e cs r v ∧ ResAll P N w0 e cs rs us
def retV : List Value → Value
  | [v] => v
  | vs => .tuple vs.toArray
theorem results_run {fn : Func} {rs : List ResultVar} {vs : List Value} (hf : fn.results = rs.toArray) (h : ResAll P N w0 e cs rs vs) {a : Act} {w : World} (he : EnvOK N e a) (ho : Own w0 w cs) : (results fn a.tmps).run P w = .ok (retV vs) w := by
  have key : ∀ (rs : List ResultVar) (vs : List Value), ResAll P N w0 e cs rs vs → (rs.mapM (resRun a)).run P w = .ok vs w := by
    intro rs
    induction rs with
    | nil => intro vs h; subst h; rfl
    | cons r rs ih =>
      rintro vs ⟨v, us, rfl, h1, h2⟩
      rw [List.mapM_cons]
      simp only [Sem.run_bind, h1 a w he ho, Result.andThen_ok, ih us h2, Sem.run_pure]
  have k := key rs vs h
  have e0 : results fn a.tmps = (do
    let vs ← fn.results.mapM (resRun a)
    pure (if h : vs.size = 1 then vs[0] else .tuple vs)) := by
    unfold results
    congr 1
  rw [e0, hf]
  simp only [List.mapM_toArray, Sem.run_bind, Sem.run_map, k, Result.andThen_ok, Sem.run_pure]
  congr 1
  match vs with
  | [v] => rfl
  | [] => rfl
  | _ :: _ :: _ => rfl
theorem H.ends {fn : Func} {rs : List ResultVar} {vs : List Value} {R : Value → List SProp → Prop} (hf : fn.results = rs.toArray) (h : ResAll P N w0 e cs rs vs) (hR : R (retV vs) cs) : H N w0 e cs (Ends P w0 fn R .ret) := by
  intro a w he ho
  exact ⟨he.defers, _, results_run hf h he ho, _, _, rfl, hR, ho⟩
theorem H.ends_n {fn : Func} {rs : List ResultVar} {vs : List Value} {R : Value → List SProp → Prop} (hf : fn.results = rs.toArray) (h : ResAll P N w0 e cs rs vs) (hR : R (retV vs) cs) : H N w0 e cs (Ends P w0 fn R .normal) := by
  intro a w he ho
  exact ⟨he.defers, _, results_run hf h he ho, _, _, rfl, hR, ho⟩
theorem H.ends_to {fn : Func} {rs : List ResultVar} {vs : List Value} {cs' : List SProp} {R : Value → List SProp → Prop} (hf : fn.results = rs.toArray) (h : ResAll P N w0 e cs rs vs) (hc : ∀ w, Own w0 w cs → Own w0 w cs') (hR : R (retV vs) cs') : H N w0 e cs (Ends P w0 fn R .ret) := by
  intro a w he ho
  exact ⟨he.defers, _, results_run hf h he ho, _, _, rfl, hR, hc w ho⟩
theorem H.ends_n_to {fn : Func} {rs : List ResultVar} {vs : List Value} {cs' : List SProp} {R : Value → List SProp → Prop} (hf : fn.results = rs.toArray) (h : ResAll P N w0 e cs rs vs) (hc : ∀ w, Own w0 w cs → Own w0 w cs') (hR : R (retV vs) cs') : H N w0 e cs (Ends P w0 fn R .normal) := by
  intro a w he ho
  exact ⟨he.defers, _, results_run hf h he ho, _, _, rfl, hR, hc w ho⟩
theorem ResAll.nil : ResAll P N w0 e cs [] [] := rfl
theorem ResAll.cons {r : ResultVar} {rs : List ResultVar} {v : Value} {us : List Value} (h1 : ResOk P N w0 e cs r v) (h2 : ResAll P N w0 e cs rs us) : ResAll P N w0 e cs (r :: rs) (v :: us) := ⟨v, us, rfl, h1, h2⟩
end
/-! ### Tables of zero values and functions -/
def zeq : Value → Value → Bool
  | .bool a, .bool b => a == b
  | .int k a, .int k' b => decide (k = k') && a == b
  | .string a, .string b => a.data.toList == b.data.toList
  | .pointer none, .pointer none | .slice none 0 0, .slice none 0 0 | .map none, .map none | .chan none, .chan none | .nilFunc, .nilFunc | .nilIface, .nilIface => true
  | _, _ => false
theorem zeq_ok {a b : Value} (h : zeq a b = true) : a = b := by
  unfold zeq at h
  split at h
  · simpa using h
  · simp at h; rw [h.1, h.2]
  · simp only [beq_iff_eq] at h
    congr 1
    apply ByteArray.ext
    exact Array.ext' h
  all_goals first | rfl | cases h
def zall : List Value → List Value → Bool
  | [], [] => true
  | a :: as, b :: bs => zeq a b && zall as bs
  | _, _ => false
theorem zall_ok : ∀ {as bs : List Value}, zall as bs = true → as = bs
  | [], [], _ => rfl
  | a :: as, b :: bs, h => by
    simp only [zall, Bool.and_eq_true] at h
    rw [zeq_ok h.1, zall_ok h.2]
  | [], _ :: _, h => by cases h
  | _ :: _, [], h => by cases h
def zchk (P : Program) (t : Nat) (z : List Value) : Bool := match P.info? t with
  | some i => (match i.zero with | some v => zall v.cells.toList z | none => false) && i.size == z.length
  | none => false
def zget : List (Nat × List Value) → Nat → Option (List Value)
  | [], _ => none
  | (t, i) :: l, k => bif Nat.beq t k then some i else zget l k
theorem zget_ok {P : Program} : ∀ {l : List (Nat × List Value)}, (l.all fun p => zchk P p.1 p.2) = true → ∀ {t i}, zget l t = some i → ZOk P t i
  | [], _, t, i, h => by simp [zget] at h
  | (t', i') :: l, hl, t, i, h => by
    simp only [List.all_cons, Bool.and_eq_true] at hl
    simp only [zget] at h
    by_cases ht : t' = t
    · subst ht
      simp at h
      subst h
      have h1 := hl.1
      unfold zchk at h1
      split at h1
      · rename_i i hi
        simp only [Bool.and_eq_true, beq_iff_eq] at h1
        obtain ⟨h1, h2⟩ := h1
        split at h1
        · rename_i v hv
          exact ⟨i, v, hi, hv, zall_ok h1, h2⟩
        · cases h1
      · cases h1
    · rw [beq_false.2 ht] at h; exact zget_ok hl.2 h
def fbod (P : Program) (k : Nat) : Bool := match P.funcs[k]? with
  | some fn => !fn.body.isNone
  | none => false
def fchk (P : Program) (k : Nat) : Bool := match P.funcs[k]? with
  | some fn => !(fn.name == "runtime.NumGoroutine") && !fn.body.isNone
  | none => false
theorem fok {P : Program} {n k : Nat} (h : ((List.range n).all fun k => fchk P k || !(fbod P k)) = true) (hk : Nat.blt k n = true) {fn : Func} (hf : P.funcs[k]? = some fn) {c : Code} (hc : fn.body = some c) : FOk P k := by
  have h1 := List.all_eq_true.1 h k (List.mem_range.2 (by simpa using hk))
  simp only [fchk, fbod, hf, hc] at h1
  refine ⟨fn, hf, ?_, by simp [hc]⟩
  simpa using h1
end Go.Proofs.YtbglphpinhjfeaaGreatDoor
