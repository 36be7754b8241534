/- append, make, conversions, calls. -/
import Derived.Test.YtbglphpinhjfeaaGreatDoorOpt
namespace Go.Proofs.YtbglphpinhjfeaaGreatDoor
open Go Go.RowKit
set_option linter.unusedVariables false
set_option linter.unusedSimpArgs false

abbrev Ones (l : List Value) : Prop := ∀ y ∈ l, y.oneCell' = true
theorem ones_nil : Ones [] := by intro y h; cases h
theorem ones_cons {x : Value} {l : List Value} (h : x.oneCell' = true) (h' : Ones l) : Ones (x :: l) := by
  intro y hy
  rcases List.mem_cons.1 hy with rfl | h1
  · exact h
  · exact h' y h1
theorem ones_map {α : Type} {f : α → Value} (h : ∀ a, (f a).oneCell' = true) (l : List α) : Ones (l.map f) := by
  intro y hy
  obtain ⟨a, _, rfl⟩ := List.mem_map.1 hy
  exact h a
section
variable {P : Program} {N : Nat} {w0 : World} {e : Env} {cs : List SProp} {ty : TypeId}
theorem append_src {B : Option Addr} {m c : Nat} {ys : List Value} (hr : Reads w0 cs B m c ys) (w1 : World) (ho1 : Own w0 w1 cs) : (Builtin.firstCells 1 m (.slice B m c)).run P w1 = .ok ys.toArray w1 := by
  have hR := hr w1 ho1
  cases B with
  | none =>
    have h0 := hR.nil rfl
    have h0' := hR.cap
    have h0'' := hR.len
    have : ys = [] := List.eq_nil_of_length_eq_zero (by omega)
    subst this
    exact run_firstCells_none _ 1 m m c
  | some ad => exact run_firstCells_some w1 1 m ad m c ys (by rw [hR.len]; omega) (by simpa [sadr] using hR.cells)
theorem Ef.append {x y : Operand} {t el n cap m c sz by_ : Nat} {ei : TI} {z : Value} {A B : Option Addr} {xs ys : List Value} {cs1 : Option Addr → Nat → List SProp} (hx : evE e x = some (.slice A n cap)) (hy : evE e y = some (.slice B m c))
    (hT : TOk P t ⟨.slice el, sz, by_⟩) (hE : TOk P el ei) (hs : ei.size = 1) (hZ : ZOk P el [z]) (hr : Reads w0 cs B m c ys) (hu : ∀ A' c', Upd cs (osl el A n cap xs) (osl el A' (n + m) c' (xs ++ ys)) (cs1 A' c')) (h1 : Ones ys) (hb : (n + m) * ei.bytes ≤ 140737488355328) (hm : n + m ≤ maxLen) :
    Ef P N w0 e cs (.call ⟨.builtin .append, #[x, y], #[t, t]⟩) ty (Grew el (n + m) xs cs1) := by
  intro a w he ho o' g1 g2 K Q hK
  obtain ⟨r, p1, p2⟩ := (hu none 0).perm
  obtain ⟨A', c', w', h2, h3⟩ := Own.append (P := P) (ty := o'.type) (u := t) (x := .slice B m c) (ys := ys) (m := m) hT.slice hE hs hZ (fun w1 ho1 => append_src hr w1 (ho1.perm p1.symm)) (fun w => rfl) ⟨_, hT.slice, fun k => by simp⟩ (hr w ho).len h1 hb hm (ho.perm p1)
  have hrr : (execOp a.eval o').run P w = .ok (.value (.slice A' (n + m) c')) w' := by
    simp only [execOp, g1]
    simp [resolve, invoke, builtin, he.ev hx, he.ev hy, h2]
  unfold Oper.wp
  rw [hrr]
  exact hK _ _ _ ⟨A', c', rfl, rfl⟩ (Own.upd (hu A' c') ho h3)
/-- One element more, or the elements of another slice, where both sides are lists of one kind. -/
theorem Ef.append1 {α : Type} {f : α → Value} {l : List α} {b : α} {x y : Operand} {t el n cap c sz by_ : Nat} {ei : TI} {z : Value} {A B : Option Addr} {cs1 : Option Addr → Nat → List SProp} (hx : evE e x = some (.slice A n cap)) (hy : evE e y = some (.slice B 1 c))
    (hT : TOk P t ⟨.slice el, sz, by_⟩) (hE : TOk P el ei) (hs : ei.size = 1) (hZ : ZOk P el [z]) (hr : Reads w0 cs B 1 c [f b]) (hu : ∀ A' c', Upd cs (osl el A n cap (l.map f)) (osl el A' (n + 1) c' ((l ++ [b]).map f)) (cs1 A' c')) (h1 : ∀ a, (f a).oneCell' = true) (hb : (n + 1) * ei.bytes ≤ 140737488355328) (hm : n + 1 ≤ maxLen) :
    Ef P N w0 e cs (.call ⟨.builtin .append, #[x, y], #[t, t]⟩) ty (Grew el (n + 1) (l.map f) cs1) :=
  Ef.append hx hy hT hE hs hZ hr (by intro A' c'; have := hu A' c'; rwa [List.map_append] at this) (ones_cons (h1 b) ones_nil) hb hm
theorem Ef.append2 {α : Type} {f : α → Value} {l l2 : List α} {x y : Operand} {t el n cap m c sz by_ : Nat} {ei : TI} {z : Value} {A B : Option Addr} {cs1 : Option Addr → Nat → List SProp} (hx : evE e x = some (.slice A n cap)) (hy : evE e y = some (.slice B m c))
    (hT : TOk P t ⟨.slice el, sz, by_⟩) (hE : TOk P el ei) (hs : ei.size = 1) (hZ : ZOk P el [z]) (hr : Reads w0 cs B m c (l2.map f)) (hu : ∀ A' c', Upd cs (osl el A n cap (l.map f)) (osl el A' (n + m) c' ((l ++ l2).map f)) (cs1 A' c')) (h1 : ∀ a, (f a).oneCell' = true) (hb : (n + m) * ei.bytes ≤ 140737488355328) (hm : n + m ≤ maxLen) :
    Ef P N w0 e cs (.call ⟨.builtin .append, #[x, y], #[t, t]⟩) ty (Grew el (n + m) (l.map f) cs1) :=
  Ef.append hx hy hT hE hs hZ hr (by intro A' c'; have := hu A' c'; rwa [List.map_append] at this) (ones_map h1 _) hb hm
/-- A string's bytes behind a slice of bytes. -/
theorem Ef.append_str {x y : Operand} {t u el n cap sz by_ sz' by' : Nat} {ei : TI} {z : Value} {A : Option Addr} {l s : List UInt8} {cs1 : Option Addr → Nat → List SProp} (hx : evE e x = some (.slice A n cap)) (hy : evE e y = some (str s))
    (hT : TOk P t ⟨.slice el, sz, by_⟩) (hU : TOk P u ⟨.string, sz', by'⟩) (hE : TOk P el ei) (hs : ei.size = 1) (hZ : ZOk P el [z]) (hu : ∀ A' c', Upd cs (osl el A n cap (l.map u8v)) (osl el A' (n + s.length) c' ((l ++ s).map u8v)) (cs1 A' c')) (hb : (n + s.length) * ei.bytes ≤ 140737488355328) (hm : n + s.length ≤ maxLen) :
    Ef P N w0 e cs (.call ⟨.builtin .append, #[x, y], #[t, u]⟩) ty (Grew el (n + s.length) (l.map u8v) cs1) := by
  intro a w he ho o' g1 g2 K Q hK
  obtain ⟨r, p1, p2⟩ := (hu none 0).perm
  obtain ⟨A', c', w', h2, h3⟩ := Own.append (P := P) (ty := o'.type) (u := u) (x := str s) (ys := s.map u8v) (m := s.length) hT.slice hE hs hZ (fun w1 ho1 => by
    simp only [Builtin.firstCells, Sem.run_pure]
    congr 1
    apply Array.ext'
    have : (⟨⟨s⟩⟩ : ByteArray).extract 0 s.length = ⟨⟨s⟩⟩ := by rw [str_extract]; simp
    rw [this]
    simp) (fun w => rfl) ⟨_, hU.string, fun k => by simp⟩ (by simp) (ones_map (fun _ => rfl) _) hb hm (ho.perm p1)
  have hrr : (execOp a.eval o').run P w = .ok (.value (.slice A' (n + s.length) c')) w' := by
    simp only [execOp, g1]
    simp [resolve, invoke, builtin, he.ev hx, he.ev hy, h2]
  unfold Oper.wp
  rw [hrr]
  exact hK _ _ _ ⟨A', c', rfl, rfl⟩ (Own.upd (hu A' c') ho (by rw [List.map_append]; exact h3))
/-- make([]T, n) -/
theorem Ef.makeSlice {α : Type} {f : α → Value} {b : α} {x y : Operand} {t el sz by_ : Nat} {ei : TI} {n c : Int} (hx : evE e x = some (.int .i64 n)) (hy : evE e y = some (.int .i64 c)) (hT : TOk P t ⟨.slice el, sz, by_⟩) (hE : TOk P el ei) (hs : ei.size = 1) (hZ : ZOk P el [f b]) (h1 : ∀ a, (f a).oneCell' = true) (h0 : 0 ≤ n) (hnc : n ≤ c) (hb : (ei.bytes : Int) * c ≤ 281474976710656) (hm : c ≤ 9223372036854775807) :
    Ef P N w0 e cs (.makeSlice t x y) ty (fun v cs' => ∃ A, v = .slice A n.toNat c.toNat ∧ cs' = osl el A n.toNat c.toNat ((List.replicate n.toNat b).map f) :: cs) := by
  intro a w he ho o' g1 g2 K Q hK
  obtain ⟨i, zv, z1, z2, z3, z4⟩ := hZ.ok
  obtain ⟨i', q1, q2, q3⟩ := hE.inf
  have : i = i' := by rw [z1] at q1; injection q1
  subst this
  have hzc : zv.cells = #[f b] := by
    have : zv.cells = zv.cells.toList.toArray := by simp
    rw [this, z3]
  have hr := run_make (P := P) w t el i zv hT.slice z1 z2 .i64 .i64 n c h0 hnc (by rw [q3]; exact hb) hm
  have hmc : madeCells zv.cells (c.toNat * i.size) = (List.replicate c.toNat (f b)).toArray := by
    rw [hzc, q2, hs]
    apply Array.ext
    · simp [madeCells]
    · intro j h1 h2; simp [madeCells, Nat.mod_one]
  rw [hmc] at hr
  have hrr : (execOp a.eval o').run P w = .ok (.value (.slice (some ⟨w.heap.size, 0, none⟩) n.toNat c.toNat)) (w.alloc (.cells (List.replicate c.toNat (f b)).toArray el)) := by
    simp only [execOp, g1, he.ev hx, he.ev hy, Sem.run_bind, hr, Result.andThen_ok, Sem.run_pure]
  unfold Oper.wp
  rw [hrr]
  refine hK _ _ _ ⟨_, rfl, rfl⟩ (Own.new_osl (by simp) (by omega) (by simp only [maxLen]; omega) (by simp) ?_ (ones_map h1 _) ho)
  rw [List.take_replicate, List.map_replicate]
  congr 1
  omega
/-- []byte(s) -/
theorem Ef.str_bytes {x : Operand} {t u el sz by_ sz' by' : Nat} {ui : TI} {l : List UInt8} (hx : evE e x = some (str l)) (hU : TOk P u ui) (hT : TOk P t ⟨.slice el, sz, by_⟩) (hE : TOk P el ⟨.int .u8, sz', by'⟩) (hm : l.length ≤ 9223372036854775807) :
    Ef P N w0 e cs (.convert u t x) ty (fun v cs' => ∃ A c, v = .slice A l.length c ∧ cs' = osl el A l.length c (l.map u8v) :: cs) := by
  intro a w he ho o' g1 g2 K Q hK
  obtain ⟨d, hd, _⟩ := hU.und
  have hr := Lib.run_convert_string_bytes (P := P) w u t el ⟨⟨l⟩⟩ hd hT.slice hE.int
  have hrr : (execOp a.eval o').run P w = .ok (.value (.slice (some ⟨w.heap.size, 0, none⟩) l.length (grownCap w l.length 0 el))) (Lib.bytesWorld w el ⟨⟨l⟩⟩) := by
    simp only [execOp, g1, he.ev hx, Sem.run_bind, hr, Result.andThen_ok, Sem.run_pure]
    rfl
  unfold Oper.wp
  rw [hrr]
  refine hK _ _ _ ⟨_, _, rfl, rfl⟩ ?_
  have hge := grownCap_ge w l.length 0 el
  refine Own.frame0 ho ⟨rfl, rfl, rfl, ?_, fun k hk _ => Lib.bytesWorld_at_old w el _ k hk⟩ ⟨[(w.heap.size, .cells (Lib.bytesCells w el ⟨⟨l⟩⟩) el ((Lib.bytesCells w el ⟨⟨l⟩⟩).size, (Lib.bytesCells w el ⟨⟨l⟩⟩).size + 1))], ?_, by simp, ?_, by simp⟩
  · rw [Lib.bytesWorld_size]; omega
  · refine ⟨⟨by simp, hge, grownCap_le_maxLen w _ _ _ (by simpa [maxLen] using hm)⟩, .inr ⟨_, 0, (Lib.bytesCells w el ⟨⟨l⟩⟩).toList, _, rfl, ?_, .inr ?_, ?_, ones_map (fun _ => rfl) _, rfl⟩⟩
    · have h2 : (⟨⟨l⟩⟩ : ByteArray).size = l.length := rfl
      simp only [Lib.bytesCells, Array.length_toList, Array.size_append, Array.size_map, Array.size_replicate, h2]
      have h3 : (⟨l⟩ : Array UInt8).size = l.length := rfl
      omega
    · simp
    · have h2 : (⟨⟨l⟩⟩ : ByteArray).data = ⟨l⟩ := rfl
      simp [Lib.bytesCells, h2]
  · intro p hp
    rw [List.mem_singleton.1 hp]
    exact Lib.bytesWorld_at_new w el _

/-! ### Calls -/
structure FOk (P : Program) (k : FuncId) : Prop where
  ok : ∃ fn, P.funcs[k]? = some fn ∧ (fn.name == "runtime.NumGoroutine") = false ∧ fn.body.isNone = false
theorem run_callFunc {k : FuncId} (hF : FOk P k) (args : Array Value) (w : World) : (callFunc k args).run P w = .ok (.enter k args) w := by
  obtain ⟨fn, h1, h2, h3⟩ := hF.ok
  unfold callFunc
  have hp : (program).run P w = .ok P w := rfl
  simp only [Sem.run_bind, hp, Result.andThen_ok, h1, h2, h3]
  rfl
/-- []byte("..") of a constant: the row's mark. -/
theorem Ef.conv_mark {x : Operand} {t el n cap sz by_ sz' by' : Nat} {A : Option Addr} {xs : List Value} {et : TypeId} (hx : evE e x = some (.slice A n cap)) (hT : TOk P t ⟨.slice el, sz, by_⟩) (hE : TOk P el ⟨.int .u8, sz', by'⟩) (hm : Upd cs (osl et A n cap xs) (osl et A n cap xs) cs) (hn : 0 < n) :
    Ef P N w0 e cs (.convert t t x) ty (fun v cs' => v = .slice A n cap ∧ cs' = cs) := by
  intro a w he ho o' g1 g2 K Q hK
  have hmem : osl et A n cap xs ∈ cs := by
    clear hK ho
    generalize hc : osl et A n cap xs = c at hm
    clear hc
    have key : ∀ {cs c c' cs'}, Upd cs c c' cs' → c ∈ cs := by
      intro cs c c' cs' h
      induction h with
      | head => exact .head _
      | tail _ ih => exact .tail _ ih
    exact key hm
  obtain ⟨F, ⟨⟨q1, q2, q3⟩, hq⟩, hnd, hF⟩ := ho.mem hmem
  rcases hq with ⟨q4, _⟩ | ⟨b, off, cur, fz, rfl, p1, p2, p3, p4, rfl⟩
  · omega
  have hb := (hF _ (List.mem_singleton.2 rfl)).2
  have hrun : (convert t t (.slice (some ⟨b, off, none⟩) n cap)).run P w = .ok (.slice (some ⟨b, off, none⟩) n cap) (w.freeze ⟨b, cur.length, none⟩ 1) := by
    have hsh : w.shape? b = some (et, cur.length) := by
      unfold World.shape?
      simp only [] at hb
      rw [hb]; simp
    simp [convert, run_underlying hT.slice, run_underlying hE.int, markStringish, hsh]
  have hrr : (execOp a.eval o').run P w = .ok (.value (.slice (some ⟨b, off, none⟩) n cap)) (w.freeze ⟨b, cur.length, none⟩ 1) := by
    simp only [execOp, g1, he.ev hx, Sem.run_bind, hrun, Result.andThen_ok, Sem.run_pure]
  unfold Oper.wp
  rw [hrr]
  refine hK _ _ _ ⟨rfl, rfl⟩ ?_
  refine Own.upd hm ho fun r h => Own.frame h ?_
  rintro F1 ⟨⟨s1, s2, s3⟩, hs⟩ hnd1 hF1
  rcases hs with ⟨s4, _⟩ | ⟨b', off', cur', fz', e1, u1, u2, u3, u4, rfl⟩
  · omega
  cases e1
  have hb' := (hF1 _ (List.mem_singleton.2 rfl)).2
  simp only [] at hb hb'
  rw [hb] at hb'
  injection hb' with hb'
  injection hb' with v1 v2 v3
  have hcc : cur = cur' := by simpa using congrArg Array.toList v1
  subst hcc v3
  have hfz : (w.freeze ⟨b, cur.length, none⟩ 1).heap = w.heap.modify b fun
      | .cells c elem (lo, hi) => .cells c elem (if lo == hi then (cur.length, cur.length + 1) else (min lo cur.length, max hi (cur.length + 1)))
      | o => o := by
    unfold World.freeze
    rw [if_neg (by decide)]
    rfl
  refine ⟨⟨?_, ?_, ?_, ?_, ?_⟩, [(b, .cells cur.toArray et (if fz.1 == fz.2 then (cur.length, cur.length + 1) else (min fz.1 cur.length, max fz.2 (cur.length + 1))))], ⟨⟨q1, q2, q3⟩, .inr ⟨b, off, cur, _, rfl, p1, ?_, p3, p4, rfl⟩⟩, by simp, ?_, by simp⟩
  · unfold World.freeze; rw [if_neg (by decide)]
  · unfold World.freeze; rw [if_neg (by decide)]
  · unfold World.freeze; rw [if_neg (by decide)]
  · rw [hfz, Array.size_modify]; exact Nat.le_refl _
  · intro k hk hne
    rw [hfz, Array.getElem?_modify, if_neg (fun e => hne (by simp [e]))]
  · unfold Fz at p2 ⊢
    split
    · right; exact Nat.le_refl _
    · rename_i hh
      right
      have : cur.length ≤ fz.1 := by
        rcases p2 with p2 | p2
        · simp [p2] at hh
        · exact p2
      show cur.length ≤ min fz.1 cur.length
      omega
  · intro p hp
    rw [List.mem_singleton.1 hp, hfz, Array.getElem?_modify, if_pos rfl, hb]
    rfl
theorem Ef.call {k : FuncId} {xs : List Operand} {vs : List Value} {tys : Array TypeId} {R : Value → List SProp → Prop} (hF : FOk P k) (hxs : evL e xs = some vs) (hs : Spec P w0 k vs cs R) : Ef P N w0 e cs (.call ⟨.value (.func k), xs.toArray, tys⟩) ty R := by
  intro a w he ho o' g1 g2 K Q hK
  have hr : (execOp a.eval o').run P w = .ok (.enter k vs.toArray) w := by
    simp only [execOp, g1]
    have := he.evs hxs
    simp [resolve, invoke, Act.eval, Deferred.ofValue, run_callFunc hF]
    exact this
  unfold Oper.wp
  rw [hr]
  refine (hs w ho).mono ?_
  rintro en w' ⟨v, cs', rfl, h1, h2⟩
  exact hK v cs' w' h1 h2
/-- A function value is called. -/
theorem Ef.callv {k : FuncId} {x : Operand} {xs : List Operand} {vs : List Value} {first cap : Array Value} {tys : Array TypeId} {R : Value → List SProp → Prop} (hF : FOk P k) (hx : evE e x = some (.func (.func k) first cap)) (hxs : evL e xs = some vs) (hs : Spec P w0 k (first.toList ++ vs ++ cap.toList) cs R) :
    Ef P N w0 e cs (.call ⟨.value x, xs.toArray, tys⟩) ty R := by
  intro a w he ho o' g1 g2 K Q hK
  have hr : (execOp a.eval o').run P w = .ok (.enter k (first.toList ++ vs ++ cap.toList).toArray) w := by
    simp only [execOp, g1]
    have := he.evs hxs
    simp [resolve, invoke, he.ev hx, Deferred.ofValue, run_callFunc hF]
    rw [← this]
  unfold Oper.wp
  rw [hr]
  refine (hs w ho).mono ?_
  rintro en w' ⟨v, cs', rfl, h1, h2⟩
  exact hK v cs' w' h1 h2
end
end Go.Proofs.YtbglphpinhjfeaaGreatDoor
