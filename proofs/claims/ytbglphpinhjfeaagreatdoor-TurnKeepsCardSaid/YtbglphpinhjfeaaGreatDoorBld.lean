/- strings.Builder over the separation logic, and the package dots. -/
import Derived.Test.YtbglphpinhjfeaaGreatDoorRdr
import Derived.Lib.Builder
import Derived.Lib.UnsafeStr
import Derived.Laws.Externs
namespace Go.Proofs.YtbglphpinhjfeaaGreatDoor
open Go Go.RowKit
set_option maxRecDepth 100000
set_option linter.unusedVariables false
section
variable {P : Program} {N : Nat} {w0 : World} {e : Env} {cs : List SProp} {ty : TypeId}
theorem Own.shape {w : World} {b : Nat} {cur : List Value} {bt : TypeId} (h : Own w0 w cs) (hm : blk b cur bt ∈ cs) : w.shape? b = some (bt, cur.length) := by
  obtain ⟨F, ⟨fz, h1, rfl⟩, h2, h3⟩ := h.mem hm
  have := (h3 _ (List.mem_singleton.2 rfl)).2
  simp only [] at this
  unfold World.shape?
  rw [this]
  simp
theorem Qt.to_unsafe {x : Operand} {s d u b : Nat} {cur : List Value} {bt : TypeId} (hx : evE e x = some (.pointer (some ⟨b, 0, none⟩))) (hs : P.underlying s = some (.pointer u)) (hd : P.underlying d = some .unsafePointer) (hz : (P.info? u).map (·.size) = some (cur.length)) (hm : blk b cur bt ∈ cs) (hl : cur.length ≠ 0) :
    Qt P N w0 e cs (.convert s d x) ty (.pointer (some ⟨b, 0, none⟩)) := by
  intro a w he ho o' g1 g2
  obtain ⟨j, hj, hjs⟩ := Option.map_eq_some_iff.1 hz
  have := Lib.run_to_unsafe w ⟨b, 0, none⟩ hs hd hj (by rw [hjs]; exact hl) (ho.shape hm) (by show 0 < cur.length; omega)
  simp only [execOp, g1, he.ev hx, Sem.run_bind, this, Result.andThen_ok, Sem.run_pure]
theorem Qt.from_unsafe {x : Operand} {s d u b : Nat} {cur : List Value} {bt : TypeId} (hx : evE e x = some (.pointer (some ⟨b, 0, none⟩))) (hs : P.underlying s = some .unsafePointer) (hd : P.underlying d = some (.pointer u)) (hz : (P.info? u).map (·.size) = some (cur.length)) (hm : blk b cur bt ∈ cs) (hl : liesAt P P.depth bt (cur.length / P.cellsOf bt) 0 u 1 = true) :
    Qt P N w0 e cs (.convert s d x) ty (.pointer (some ⟨b, 0, none⟩)) := by
  intro a w he ho o' g1 g2
  obtain ⟨j, hj, hjs⟩ := Option.map_eq_some_iff.1 hz
  have := Lib.run_from_unsafe w ⟨b, 0, none⟩ hs hd hj (ho.shape hm) hl
  simp only [execOp, g1, he.ev hx, Sem.run_bind, this, Result.andThen_ok, Sem.run_pure]
theorem Qt.extern1 {x : Operand} {f : FuncId} {fn : Func} {u v : Value} {ex : Array Value → Sem Value} {tys : Array TypeId} (hx : evE e x = some u) (hf : P.funcs[f]? = some fn) (hname : (fn.name == "runtime.NumGoroutine") = false)
    (hb : fn.body.isNone = true) (hn : Extern.findNext fn = none) (he' : Extern.find fn = some ex) (hr : ∀ w, (ex #[u]).run P w = .ok v w) : Qt P N w0 e cs (.call ⟨.value (.func f), #[x], tys⟩) ty v := by
  intro a w he ho o' g1 g2
  have h1 : (callFunc f #[u]).run P w = .ok (.value v) w := by
    rw [run_callFunc_extern hf hname hb hn he', hr w]; rfl
  have hf' : a.eval (.func f) = .func (.func f) #[] #[] := rfl
  simp only [execOp, g1]
  simp [resolve, invoke, Deferred.ofValue, he.ev hx, hf', h1]
theorem Qt.ptr_ne_self {x y : Operand} {t t' u b : Nat} {j : TypeInfo} (hx : evE e x = some (.pointer (some ⟨b, 0, none⟩))) (hy : evE e y = some (.pointer (some ⟨b, 0, none⟩))) (hT : P.underlying t = some (.pointer u)) (hj : P.info? u = some j) :
    Qt P N w0 e cs (.binOp .neq t x y t') ty (.bool false) := by
  intro a w he ho o' g1 g2
  have := Lib.run_neq_ptr_same w ⟨b, 0, none⟩ hT hj
  simp only [execOp, g1, he.ev hx, he.ev hy, Sem.run_bind]
  have hg : (eqGuard .neq t x y (.pointer (some ⟨b, 0, none⟩)) (.pointer (some ⟨b, 0, none⟩))).run P w = .ok () w := by
    simp [eqGuard]
  rw [hg]
  simp only [Result.andThen_ok, this, Sem.run_pure]
theorem liesAt_off {e : TypeId} (hc : P.cellsOf e = 1) (count off n : Nat) (hn : off + n ≤ count) : liesAt P P.depth e count off e n = true := by
  have hd : P.depth = (2 * (P.types.size + Made.depth) + 1) + 1 := rfl
  rw [hd]
  simp only [liesAt, Bool.or_eq_true]
  left
  rw [hd]
  simp [rowAt, hc, hn, sameLayout, Nat.mod_one]
theorem run_unsafeString (w : World) (pt it ty e : TypeId) (hp : P.underlying pt = some (.pointer e)) (hc : P.cellsOf e = 1) (g off cells : Nat) (hsh : w.shape? g = some (e, cells)) (l : List UInt8) (h0 : l ≠ []) (hn : off + l.length ≤ cells) (h63 : l.length ≤ 9223372036854775807)
    (hcell : ∀ j x, l[j]? = some x → w.cell? ((⟨g, off, none⟩ : Addr).add j) = some (.int .u8 x.toNat)) :
    (Builtin.unsafeString_ #[pt, it] ty #[.pointer (some ⟨g, off, none⟩), .int .i64 l.length]).run P w = .ok (.string ⟨l.toArray⟩) (w.freeze ⟨g, off, none⟩ l.length) := by
  have hl : l.length ≠ 0 := by simpa using h0
  have hlb := Lib.run_loadBytes (P := P) w l ⟨g, off, none⟩ .empty hcell
  have hlies := liesAt_off (P := P) hc (cells / P.cellsOf e) off l.length (by rw [hc]; simpa using hn)
  have h63' : ¬ (9223372036854775807 : Int) < (l.length : Int) := by omega
  have hdef : Builtin.unsafeString_ #[pt, it] ty #[.pointer (some ⟨g, off, none⟩), .int .i64 l.length] =
      (do
        let n ← asInt (.int .i64 l.length)
        if n < 0 then runtimePanic (.error "unsafe.String: len out of range")
        if n > IntKind.i64.max then unsupported (.unsafePointer "String: a length above the largest int")
        if n = 0 then pure (.string .empty)
        else if ← variablesAt ⟨g, off, none⟩ (← elemOf pt) n.toNat then do
          let s ← loadBytes ⟨g, off, none⟩ .empty n.toNat
          freeze ⟨g, off, none⟩ n.toNat
          pure (.string s)
        else unsupported (.unsafePointer "String: not so many bytes at ptr")) := rfl
  rw [hdef]
  have hmax : IntKind.i64.max = 9223372036854775807 := rfl
  have hneg : ¬ (l.length : Int) < 0 := by omega
  simp [asInt, asIntOf, hmax, h63', hneg, hl, variablesAt, hsh, elemOf, run_underlying hp, hlies, hlb]
theorem Qt.slice_data {x : Operand} {n cap : Nat} {A : Option Addr} {xs : List Value} {ats : Array TypeId} (hx : evE e x = some (.slice A n cap)) (hr : Reads w0 cs A n cap xs) (hn : 0 < n) :
    Qt P N w0 e cs (.call ⟨.builtin .unsafeSliceData, #[x], ats⟩) ty (.pointer A) := by
  intro a w he ho o' g1 g2
  obtain ⟨r1, r2, r3, r4⟩ := (hr w ho).facts
  cases A with
  | none => have := r4 rfl; omega
  | some p =>
    have := Lib.run_unsafeSliceData_row (P := P) w ats o'.type p n cap (by omega)
    simp only [execOp, g1]
    simp [resolve, invoke, builtin, he.ev hx, this]
theorem Ef.unsafe_string {x y : Operand} {pt it el n cap : Nat} {A : Option Addr} {l : List UInt8} {cs1 : List SProp} (hx : evE e x = some (.pointer A)) (hy : evE e y = some (.int .i64 n)) (hp : P.underlying pt = some (.pointer el)) (hc : P.cellsOf el = 1)
    (hm : Upd cs (osl el A n cap (l.map u8v)) (pur True) cs1) (hn : 0 < n) :
    Ef P N w0 e cs (.call ⟨.builtin .unsafeString, #[x, y], #[pt, it]⟩) ty (fun v cs' => v = str l ∧ cs' = cs1) := by
  intro a w he ho o' g1 g2 K Q hK
  have hmem : osl el A n cap (l.map u8v) ∈ cs := by
    have key : ∀ {cs c c' cs'}, Upd cs c c' cs' → c ∈ cs := by
      intro cs c c' cs' h
      induction h with
      | head => exact .head _
      | tail _ ih => exact .tail _ ih
    exact key hm
  have hrd := osl_reads hmem w ho
  have hlen := hrd.len
  simp only [List.length_map] at hlen
  obtain ⟨F, ⟨⟨q1, q2, q3⟩, hq⟩, hnd, hF⟩ := ho.mem hmem
  rcases hq with ⟨q4, _⟩ | ⟨b, off, cur, fz, rfl, p1, p2, p3, p4, rfl⟩
  · omega
  have hb := (hF _ (List.mem_singleton.2 rfl)).2
  simp only [] at hb
  have hsh : w.shape? b = some (el, cur.length) := by
    unfold World.shape?
    rw [hb]; simp
  have hrun := run_unsafeString (P := P) w pt it o'.type el hp hc b off cur.length hsh l (by intro h; subst h; simp at hlen; omega) (by omega) (by simp only [maxLen] at q3; omega) (fun j x hx => by
    have := hrd.cells j (u8v x) (by simp [hx])
    simpa [sadr] using this)
  rw [hlen] at hrun
  have hrr : (execOp a.eval o').run P w = .ok (.value (str l)) (w.freeze ⟨b, off, none⟩ n) := by
    simp only [execOp, g1]
    simp [resolve, invoke, builtin, he.ev hx, he.ev hy, hrun]
  unfold Oper.wp
  rw [hrr]
  refine hK _ _ _ ⟨rfl, rfl⟩ ?_
  refine Own.upd hm ho fun r h => Own.frame h ?_
  rintro F1 ⟨⟨s1, s2, s3⟩, hs⟩ hnd1 hF1
  rcases hs with ⟨s4, _⟩ | ⟨b', off', cur', fz', e1, u1, u2, u3, u4, rfl⟩
  · omega
  cases e1
  have hfz : (w.freeze ⟨b, off, none⟩ n).heap = w.heap.modify b fun
      | .cells c elem (lo, hi) => .cells c elem (if lo == hi then (off, off + n) else (min lo off, max hi (off + n)))
      | o => o := by
    unfold World.freeze
    rw [if_neg (by omega)]
    rfl
  refine ⟨⟨?_, ?_, ?_, ?_, ?_⟩, [], ⟨rfl, trivial⟩, by simp, by simp, by simp⟩
  · unfold World.freeze; rw [if_neg (by omega)]
  · unfold World.freeze; rw [if_neg (by omega)]
  · unfold World.freeze; rw [if_neg (by omega)]
  · rw [hfz, Array.size_modify]; exact Nat.le_refl _
  · intro k hk hne
    rw [hfz, Array.getElem?_modify, if_neg (fun e => hne (by simp [e]))]
end
set_option linter.unusedSimpArgs false
attribute [local irreducible] Go.wpList Go.Code.wp Go.Exit.then Go.Exit.inBlock Go.Exit.noGoto Ends blk osl oblk LoopI Own Spec
def bld (b : Nat) (l : Bs) : SProp := exS fun p => exS fun A => exS fun n => exS fun c => bun [pur (p = .pointer none ∨ p = ptr b), blk b [p, .slice A n c] 52, osl 5 A n c (l.map u8v)]
theorem bld_mk {b n c : Nat} {l : Bs} {A : Option Addr} {p : Value} {fr : List SProp} {w0 w : World} (hp : p = .pointer none ∨ p = ptr b) (h : Own w0 w (blk b [p, .slice A n c] 52 :: osl 5 A n c (l.map u8v) :: fr)) : Own w0 w (bld b l :: fr) :=
  Own.ex_iff.2 ⟨p, Own.ex_iff.2 ⟨A, Own.ex_iff.2 ⟨n, Own.ex_iff.2 ⟨c, Own.bun_iff.2 (Own.pur_iff.2 ⟨hp, h⟩)⟩⟩⟩⟩
theorem H.open_bld {N : Nat} {w0 : World} {e : Env} {J : Act → World → Prop} {b : Nat} {l : Bs} {fr : List SProp}
    (h : ∀ (p : Value) (A : Option Addr) (n c : Nat), (p = .pointer none ∨ p = ptr b) → (l.length = n ∧ n ≤ c ∧ c ≤ 9223372036854775807) → H N w0 e (blk b [p, .slice A n c] 52 :: osl 5 A n c (l.map u8v) :: fr) J) : H N w0 e (bld b l :: fr) J := by
  refine H.ex fun p => H.ex fun A => H.ex fun n => H.ex fun c => H.bun ?_
  simp only [List.cons_append, List.nil_append]
  refine H.pur fun hp => ?_
  refine H.fact (fun w hw => (Own.len (osl_reads (.tail _ (.head _))) hw)) fun tl => ?_
  simp only [List.length_map] at tl
  exact h p A n c hp tl
attribute [irreducible] bld
theorem spec_copy0 (w0 : World) (b : Nat) (s : Value) (fr : List SProp) :
    Spec Tryz.prog w0 56 [ptr b] (blk b [.pointer none, s] 52 :: fr) (fun v cs' => v = unit ∧ cs' = blk b [ptr b, s] 52 :: fr) := by
  refine Spec.of_body Tryz.func56 rfl Tryz.ntmps56 rfl ?_
  refine H.seq ?_
  refine H.region ?_
  refine Ops.quiet (Qt.move rfl) rfl ?_
  refine Ops.quiet (Qt.nilCheck rfl) rfl ?_
  refine Ops.quiet (Qt.fieldAddr rfl (tk rfl) rfl) rfl ?_
  refine Ops.quiet (Qt.load rfl (tk rfl) rfl (by repeat (first | exact List.Mem.head _ | apply List.Mem.tail)) (by rfl)) rfl ?_
  refine Ops.quiet (Qt.ptr_eq_nil rfl (tk rfl)) rfl ?_
  refine Ops.nil ?_
  refine H.then_normal ?_
  refine H.cond_true rfl (by rfl) ?_
  refine H.region ?_
  refine Ops.quiet (Qt.move rfl) rfl ?_
  refine Ops.quiet (Qt.move rfl) rfl ?_
  refine Ops.quiet (Qt.to_unsafe rfl Tryz.underlying50 Tryz.underlying98 (by kernel_rfl) (.head _) (by simp)) rfl ?_
  refine Ops.quiet (Qt.extern1 (ex := Extern.AbiNoEscape.same) rfl Tryz.func70 (by kernel_rfl) (by kernel_rfl) (by kernel_rfl) (by kernel_rfl) (fun w => Lib.run_noEscape w _)) rfl ?_
  refine Ops.quiet (Qt.from_unsafe rfl Tryz.underlying98 Tryz.underlying50 (by kernel_rfl) (.head _) (by kernel_rfl)) rfl ?_
  refine Ops.quiet (Qt.nilCheck rfl) rfl ?_
  refine Ops.quiet (Qt.fieldAddr rfl (tk rfl) rfl) rfl ?_
  refine Ops.eff (Ef.store rfl rfl (tk rfl) rfl rfl (by repeat (first | exact ones_nil | refine ones_cons rfl ?_)) (by repeat (first | exact Upd.head | apply Upd.tail)) (by rfl)) rfl ?_
  rintro _ _ rfl
  refine Ops.nil ?_
  refine (H.ends_n rfl (ResAll.nil) ?_)
  exact ⟨rfl, rfl⟩
theorem spec_copy1 (w0 : World) (b : Nat) (s : Value) (fr : List SProp) :
    Spec Tryz.prog w0 56 [ptr b] (blk b [ptr b, s] 52 :: fr) (fun v cs' => v = unit ∧ cs' = blk b [ptr b, s] 52 :: fr) := by
  obtain ⟨j, hj⟩ : ∃ j, Tryz.prog.info? 52 = some j := ⟨_, rfl⟩
  refine Spec.of_body Tryz.func56 rfl Tryz.ntmps56 rfl ?_
  refine H.seq ?_
  refine H.region ?_
  refine Ops.quiet (Qt.move rfl) rfl ?_
  refine Ops.quiet (Qt.nilCheck rfl) rfl ?_
  refine Ops.quiet (Qt.fieldAddr rfl (tk rfl) rfl) rfl ?_
  refine Ops.quiet (Qt.load rfl (tk rfl) rfl (by repeat (first | exact List.Mem.head _ | apply List.Mem.tail)) (by rfl)) rfl ?_
  refine Ops.quiet (Qt.ptr_eq_nil rfl (tk rfl)) rfl ?_
  refine Ops.nil ?_
  refine H.then_normal ?_
  refine H.cond_false rfl (by rfl) ?_
  refine H.seq ?_
  refine H.region ?_
  refine Ops.quiet (Qt.move rfl) rfl ?_
  refine Ops.quiet (Qt.nilCheck rfl) rfl ?_
  refine Ops.quiet (Qt.fieldAddr rfl (tk rfl) rfl) rfl ?_
  refine Ops.quiet (Qt.load rfl (tk rfl) rfl (by repeat (first | exact List.Mem.head _ | apply List.Mem.tail)) (by rfl)) rfl ?_
  refine Ops.quiet (Qt.move rfl) rfl ?_
  refine Ops.quiet (Qt.ptr_ne_self rfl rfl Tryz.underlying50 hj) rfl ?_
  refine Ops.nil ?_
  refine H.then_normal ?_
  refine H.cond_false rfl (by rfl) ?_
  refine H.skip ?_
  refine (H.ends_n rfl (ResAll.nil) ?_)
  exact ⟨rfl, rfl⟩
theorem spec_copy (w0 : World) (b : Nat) (p s : Value) (fr : List SProp) (hp : p = .pointer none ∨ p = ptr b) :
    Spec Tryz.prog w0 56 [ptr b] (blk b [p, s] 52 :: fr) (fun v cs' => v = unit ∧ cs' = blk b [ptr b, s] 52 :: fr) := by
  rcases hp with rfl | rfl
  · exact spec_copy0 w0 b s fr
  · exact spec_copy1 w0 b s fr
/-- WriteString -/
theorem spec_bws (w0 : World) (b : Nat) (l s : Bs) (fr : List SProp) (hl : l.length + s.length ≤ 140737488355328) :
    Spec Tryz.prog w0 29 [ptr b, str s] (bld b l :: fr) (fun v cs' => v = .tuple #[num s.length, .nilIface] ∧ cs' = bld b (l ++ s) :: fr) := by
  refine Spec.of_body Tryz.func29 rfl Tryz.ntmps29 rfl ?_
  refine H.open_bld fun p A n c hp ⟨l1, l2, l3⟩ => ?_
  refine H.seq ?_
  refine H.region ?_
  refine Ops.quiet (Qt.assign rfl) rfl ?_
  refine Ops.quiet (Qt.assign rfl) rfl ?_
  refine Ops.nil ?_
  refine H.then_normal ?_
  refine H.seq ?_
  refine H.region ?_
  refine Ops.quiet (Qt.move rfl) rfl ?_
  refine Ops.eff (Ef.call (fok fab_all rfl Tryz.func56 rfl) rfl (spec_copy w0 b p _ _ hp)) rfl ?_
  rintro _ _ ⟨rfl, rfl⟩
  refine Ops.nil ?_
  refine H.then_normal ?_
  refine H.seq ?_
  refine H.region ?_
  refine Ops.quiet (Qt.move rfl) rfl ?_
  refine Ops.quiet (Qt.move rfl) rfl ?_
  refine Ops.quiet (Qt.nilCheck rfl) rfl ?_
  refine Ops.quiet (Qt.fieldAddr rfl (tk rfl) rfl) rfl ?_
  refine Ops.quiet (Qt.load rfl (tk rfl) rfl (by repeat (first | exact List.Mem.head _ | apply List.Mem.tail)) (by rfl)) rfl ?_
  refine Ops.quiet (Qt.move rfl) rfl ?_
  refine Ops.eff (Ef.append_str rfl rfl (tk rfl) (tk rfl) (tk rfl) rfl (zk rfl) (by intro _ _; repeat (first | exact Upd.head | apply Upd.tail)) (by dsimp only; omega) (by simp only [maxLen]; omega)) rfl ?_
  rintro _ _ ⟨A14, c14, rfl, rfl⟩
  refine Ops.quiet (Qt.nilCheck rfl) rfl ?_
  refine Ops.quiet (Qt.fieldAddr rfl (tk rfl) rfl) rfl ?_
  refine Ops.eff (Ef.store rfl rfl (tk rfl) rfl rfl (by repeat (first | exact ones_nil | refine ones_cons rfl ?_)) (by repeat (first | exact Upd.head | apply Upd.tail)) (by rfl)) rfl ?_
  rintro _ _ rfl
  refine Ops.nil ?_
  refine H.then_normal ?_
  refine H.seq ?_
  refine H.region ?_
  refine Ops.quiet (Qt.move rfl) rfl ?_
  refine Ops.quiet (Qt.len_str rfl (tk rfl)) rfl ?_
  refine Ops.quiet (Qt.assign rfl) rfl ?_
  refine Ops.quiet (Qt.assign rfl) rfl ?_
  refine Ops.nil ?_
  refine H.then_normal ?_
  refine H.ret ?_
  refine H.conv (fun w hw => bld_mk (l := l ++ s) (.inr rfl) hw) (H.ends rfl (.cons (.tmp rfl) (.cons (.tmp rfl) .nil)) ?_)
  exact ⟨rfl, rfl⟩
/-- String, of a builder that is not used after it. -/
theorem spec_bstr (w0 : World) (b : Nat) (l : Bs) (fr : List SProp) (hl : 0 < l.length) :
    Spec Tryz.prog w0 31 [ptr b] (bld b l :: fr) (fun v cs' => v = str l ∧ cs' = fr) := by
  refine Spec.of_body Tryz.func31 rfl Tryz.ntmps31 rfl ?_
  refine H.open_bld fun p A n c hp ⟨l1, l2, l3⟩ => ?_
  refine H.seq ?_
  refine H.region ?_
  refine Ops.quiet (Qt.assign rfl) rfl ?_
  refine Ops.nil ?_
  refine H.then_normal ?_
  refine H.seq ?_
  refine H.drawn ([blk b [p, .slice A n c] 52, osl 5 A n c (l.map u8v)]) 10 mixed (by kernel_rfl) ?_
  refine Hd.quiet 0 (by kernel_rfl) rfl rfl (by kernel_rfl) rfl (Qt.move rfl) ?_
  refine Hd.quiet 1 (by kernel_rfl) rfl rfl (by kernel_rfl) rfl (Qt.nilCheck rfl) ?_
  refine Hd.quiet 2 (by kernel_rfl) rfl rfl (by kernel_rfl) rfl (Qt.fieldAddr rfl (tk rfl) rfl) ?_
  refine Hd.quiet 3 (by kernel_rfl) rfl rfl (by kernel_rfl) rfl (Qt.load rfl (tk rfl) rfl (by repeat (first | exact List.Mem.head _ | apply List.Mem.tail)) (by rfl)) ?_
  refine Hd.quiet 4 (by kernel_rfl) rfl rfl (by kernel_rfl) rfl (Qt.slice_data rfl (by repeat (first | assumption | exact Reads.of_head | apply Reads.tail)) (by omega)) ?_
  refine Hd.quiet 5 (by kernel_rfl) rfl rfl (by kernel_rfl) rfl (Qt.move rfl) ?_
  refine Hd.quiet 6 (by kernel_rfl) rfl rfl (by kernel_rfl) rfl (Qt.nilCheck rfl) ?_
  refine Hd.quiet 7 (by kernel_rfl) rfl rfl (by kernel_rfl) rfl (Qt.fieldAddr rfl (tk rfl) rfl) ?_
  refine Hd.quiet 8 (by kernel_rfl) rfl rfl (by kernel_rfl) rfl (Qt.load rfl (tk rfl) rfl (by repeat (first | exact List.Mem.head _ | apply List.Mem.tail)) (by rfl)) ?_
  refine Hd.quiet 9 (by kernel_rfl) rfl rfl (by kernel_rfl) rfl (Qt.len_sl (ats := #[]) rfl (tk rfl)) ?_
  refine Hd.tail (by intro w hw; first | exact hw | exact Own.sub (by repeat (first | exact List.Sublist.refl _ | exact List.nil_sublist _ | apply List.Sublist.cons_cons | apply List.Sublist.cons)) hw) (by kernel_rfl) rfl ?_
  refine Ops.eff (Ef.unsafe_string rfl rfl Tryz.underlying88 (by kernel_rfl) (by repeat (first | exact Upd.head | apply Upd.tail)) (by omega)) rfl ?_
  rintro _ _ ⟨rfl, rfl⟩
  refine Ops.quiet (Qt.assign rfl) rfl ?_
  refine Ops.nil ?_
  refine H.then_normal ?_
  refine H.ret ?_
  refine (H.ends_to (cs' := fr) rfl (.cons (.tmp rfl) .nil) (fun w hw => ?_) ?_)
  · exact hw.tail.tail
  · exact ⟨rfl, rfl⟩
/-! dots -/
def sizeL (l : List Bs) : Nat := (l.map fun s => s.length + 2).sum
theorem sizeL_append (a b : List Bs) : sizeL (a ++ b) = sizeL a + sizeL b := by simp [sizeL]
theorem sizeL_take (l : List Bs) (k : Nat) (h : k < l.length) : sizeL (l.take (k + 1)) = sizeL (l.take k) + ((l.getD k []).length + 2) ∧ sizeL (l.take (k + 1)) ≤ sizeL l := by
  constructor
  · rw [List.take_succ_eq_append_getElem h, sizeL_append]
    simp [sizeL, List.getD_eq_getElem?_getD, h]
  · conv => rhs; rw [← List.take_append_drop (k + 1) l, sizeL_append]
    omega
theorem spec_dsize (w0 : World) (l : List Bs) {A : Option Addr} {n c : Nat} (cs : List SProp) (hr : Reads w0 cs A n c (l.map str)) (hs : sizeL l ≤ 4611686018427387904) :
    Spec Tryz.prog w0 69 [.slice A n c] cs (fun v cs' => v = num (sizeL l) ∧ cs' = cs) := by
  refine Spec.of_body Tryz.func69 rfl Tryz.ntmps69 rfl ?_
  refine H.fact (fun w hw => (hr w hw).facts) fun ⟨hl, hcap, hmax, hnil⟩ => ?_
  simp only [List.length_map] at hl
  refine H.seq ?_
  refine H.region ?_
  refine Ops.quiet (Qt.assign rfl) rfl ?_
  refine Ops.nil ?_
  refine H.then_normal ?_
  refine H.seq ?_
  refine H.region ?_
  refine Ops.quiet (Qt.assign rfl) rfl ?_
  refine Ops.nil ?_
  refine H.then_normal ?_
  refine H.seq ?_
  refine H.seq ?_
  refine H.region ?_
  refine Ops.quiet (Qt.move rfl) rfl ?_
  refine Ops.quiet (Qt.len_sl (ats := #[]) rfl (tk rfl)) rfl ?_
  refine Ops.quiet (Qt.move rfl) rfl ?_
  refine Ops.nil ?_
  refine H.then_normal ?_
  refine H.block ?_
  refine H.loop (X := Nat) (fun k => [(3, num (sizeL (l.take k))), (6, .slice A n c), (7, num n), (8, num k)]) (fun k => cs) (fun k => k ≤ n) (fun k => n - k) 0 (Nat.zero_le _) (by repeat (first | exact trivial | refine ⟨rfl, ?_⟩)) (fun w hw => hw) ?_
  intro k hk
  refine H.seq ?_
  refine H.region ?_
  refine Ops.quiet (Qt.lss rfl rfl) rfl ?_
  refine Ops.nil ?_
  refine H.then_normal ?_
  refine H.seq ?_
  refine H.cond rfl (fun h9 => ?_) (fun h9 => ?_)
  · try simp only [decide_eq_true_eq, decide_eq_false_iff_not, beq_iff_eq, beq_eq_false_iff_ne, bne_iff_ne, ne_eq, Bool.not_eq_true', Bool.not_eq_false', bne_eq_false_iff_eq, Bool.not_eq_eq_eq_not, Bool.not_true, Bool.not_false] at h9
    have hk' : k < l.length := by omega
    obtain ⟨hz1, hz2⟩ := sizeL_take l k hk'
    have hz3 : ((sizeL (l.take (k + 1)) : Nat) : Int) = (sizeL (l.take k) : Int) + (((l.getD (k : Int).toNat []).length : Int) + 2) := by show _ = (sizeL (l.take k) : Int) + (((l.getD k []).length : Int) + 2); omega
    refine H.skip ?_
    refine H.then_normal ?_
    refine H.seq ?_
    refine H.block ?_
    refine H.seq ?_
    refine H.region ?_
    refine Ops.quiet (Qt.indexAddr rfl rfl (tk rfl) (tk rfl) rfl (by repeat (first | assumption | exact Reads.of_head | apply Reads.tail)) (by omega) (by omega)) rfl ?_
    refine Ops.quiet (Qt.load_map ([] : List UInt8) rfl (tk rfl) rfl (by repeat (first | assumption | exact Reads.of_head | apply Reads.tail)) (by omega)) rfl ?_
    refine Ops.quiet (Qt.assign rfl) rfl ?_
    refine Ops.nil ?_
    refine H.then_normal ?_
    refine H.region ?_
    refine Ops.quiet (Qt.move rfl) rfl ?_
    refine Ops.quiet (Qt.move rfl) rfl ?_
    refine Ops.quiet (Qt.len_str rfl (tk rfl)) rfl ?_
    refine Ops.quiet (Qt.add64 rfl rfl (by omega) (by omega)) rfl ?_
    refine Ops.quiet (Qt.add64 rfl rfl (by omega) (by omega)) rfl ?_
    refine Ops.quiet (Qt.assign rfl) rfl ?_
    refine Ops.nil ?_
    refine H.blk_normal ?_
    refine H.then_normal ?_
    refine H.region ?_
    refine Ops.quiet (Qt.add64 rfl rfl (by omega) (by omega)) rfl ?_
    refine Ops.quiet (Qt.move rfl) rfl ?_
    refine Ops.nil ?_
    refine H.then_normal ?_
    refine H.round (k + 1) (by omega) (by omega) (by rw [hz3]; repeat (first | exact trivial | refine ⟨rfl, ?_⟩)) (fun w hw => hw)
  · try simp only [decide_eq_true_eq, decide_eq_false_iff_not, beq_iff_eq, beq_eq_false_iff_ne, bne_iff_ne, ne_eq, Bool.not_eq_true', Bool.not_eq_false', bne_eq_false_iff_eq, Bool.not_eq_eq_eq_not, Bool.not_true, Bool.not_false] at h9
    refine H.exit ?_
    refine H.then_exit ?_
    refine H.then_exit ?_
    refine H.blk_hit ?_
    refine H.then_normal ?_
    refine H.seq ?_
    refine H.region ?_
    refine Ops.quiet (Qt.move rfl) rfl ?_
    refine Ops.quiet (Qt.assign rfl) rfl ?_
    refine Ops.nil ?_
    refine H.then_normal ?_
    refine H.ret ?_
    have e1 : l.take k = l := List.take_of_length_le (by omega)
    refine (H.ends rfl (.cons (.tmp rfl) .nil) ?_)
    exact ⟨by rw [e1]; rfl, rfl⟩
def okB (s : Bs) : Bool := !(decide (0 ≤ Lib.indexByte s 0) || decide (0 ≤ Lib.indexByte s 10) || decide (0 ≤ Lib.indexByte s 13) || decide (997 < (s.length : Int)))
def goodB (l : List Bs) : Bool := l.all okB && decide (sizeL l ≤ 65536)
theorem sizeL_good {l : List Bs} (h : ∀ s ∈ l, okB s = true) : sizeL l ≤ 999 * l.length := by
  induction l with
  | nil => simp [sizeL]
  | cons s l ih =>
    have h1 := ih fun t ht => h t (.tail _ ht)
    have h2 := h s (.head _)
    simp only [okB, Bool.not_eq_true', Bool.or_eq_false_iff, decide_eq_false_iff_not] at h2
    have h3 : sizeL (s :: l) = s.length + 2 + sizeL l := by simp [sizeL]
    rw [h3, List.length_cons]
    omega
theorem goodB_not {l : List Bs} {s : Bs} (hm : s ∈ l) (h : okB s = false) : goodB l = false := by
  have : l.all okB = false := by rw [List.all_eq_false]; exact ⟨s, hm, by rw [h]; simp⟩
  rw [goodB, this, Bool.false_and]
theorem spec_dgood (w0 : World) (l : List Bs) {A : Option Addr} {n c : Nat} (cs : List SProp) (hr : Reads w0 cs A n c (l.map str)) (hn : l.length ≤ 1000000000000) :
    Spec Tryz.prog w0 55 [.slice A n c] cs (fun v cs' => v = bol (goodB l) ∧ cs' = cs) := by
  refine Spec.of_body Tryz.func55 rfl Tryz.ntmps55 rfl ?_
  refine H.fact (fun w hw => (hr w hw).facts) fun ⟨hl, hcap, hmax, hnil⟩ => ?_
  simp only [List.length_map] at hl
  refine H.seq ?_
  refine H.region ?_
  refine Ops.quiet (Qt.assign rfl) rfl ?_
  refine Ops.nil ?_
  refine H.then_normal ?_
  refine H.seq ?_
  refine H.seq ?_
  refine H.region ?_
  refine Ops.quiet (Qt.move rfl) rfl ?_
  refine Ops.quiet (Qt.len_sl (ats := #[]) rfl (tk rfl)) rfl ?_
  refine Ops.quiet (Qt.move rfl) rfl ?_
  refine Ops.nil ?_
  refine H.then_normal ?_
  refine H.block ?_
  refine H.loop (X := Nat) (fun k => [(0, .slice A n c), (5, .slice A n c), (6, num n), (7, num k)]) (fun k => cs) (fun k => k ≤ n ∧ ∀ j, j < k → okB (l.getD j []) = true) (fun k => n - k) 0 ⟨Nat.zero_le _, fun j h => absurd h (Nat.not_lt_zero _)⟩ (by repeat (first | exact trivial | refine ⟨rfl, ?_⟩)) (fun w hw => hw) ?_
  intro k ⟨hk, hg⟩
  refine H.seq ?_
  refine H.region ?_
  refine Ops.quiet (Qt.lss rfl rfl) rfl ?_
  refine Ops.nil ?_
  refine H.then_normal ?_
  refine H.seq ?_
  refine H.cond rfl (fun h8 => ?_) (fun h8 => ?_)
  · try simp only [decide_eq_true_eq, decide_eq_false_iff_not, beq_iff_eq, beq_eq_false_iff_ne, bne_iff_ne, ne_eq, Bool.not_eq_true', Bool.not_eq_false', bne_eq_false_iff_eq, Bool.not_eq_eq_eq_not, Bool.not_true, Bool.not_false] at h8
    have hk' : k < l.length := by omega
    have hmem : l.getD k [] ∈ l := by rw [List.getD_eq_getElem?_getD, List.getElem?_eq_getElem hk']; simp
    obtain ⟨s, hs⟩ : ∃ s, s = l.getD (k : Int).toNat [] := ⟨_, rfl⟩
    have hs' : s = l.getD k [] := hs
    refine H.skip ?_
    refine H.then_normal ?_
    refine H.seq ?_
    refine H.block ?_
    refine H.seq ?_
    refine H.region ?_
    refine Ops.quiet (Qt.indexAddr rfl rfl (tk rfl) (tk rfl) rfl (by repeat (first | assumption | exact Reads.of_head | apply Reads.tail)) (by omega) (by omega)) rfl ?_
    refine Ops.quiet (Qt.load_map ([] : List UInt8) rfl (tk rfl) rfl (by repeat (first | assumption | exact Reads.of_head | apply Reads.tail)) (by omega)) rfl ?_
    refine Ops.quiet (Qt.assign rfl) rfl ?_
    refine Ops.nil ?_
    refine H.then_normal ?_
    refine H.seq ?_
    rw [← hs]
    refine H.region ?_
    refine Ops.quiet (Qt.move rfl) rfl ?_
    refine Ops.eff (Ef.call (fok fab_all rfl Tryz.func68 rfl) rfl (spec_sindex _ _)) rfl ?_
    rintro _ _ ⟨rfl, rfl⟩
    refine Ops.quiet (Qt.geq rfl rfl) rfl ?_
    refine Ops.quiet (Qt.move rfl) rfl ?_
    refine Ops.guard rfl rfl rfl rfl (fun g14 => ?_) (fun g14 => ?_)
    · have g14' := g14
      try simp only [decide_eq_true_eq, decide_eq_false_iff_not, beq_iff_eq, beq_eq_false_iff_ne, bne_iff_ne, ne_eq, Bool.not_eq_true', Bool.not_eq_false', bne_eq_false_iff_eq, Bool.not_eq_eq_eq_not, Bool.not_true, Bool.not_false] at g14'
      refine Ops.quiet (Qt.move rfl) rfl ?_
      refine Ops.guard_yes rfl rfl rfl rfl g14 ?_
      refine Ops.eff (Ef.call (fok fab_all rfl Tryz.func68 rfl) rfl (spec_sindex _ _)) rfl ?_
      rintro _ _ ⟨rfl, rfl⟩
      refine Ops.guard_yes rfl rfl rfl rfl g14 ?_
      refine Ops.quiet (Qt.geq rfl rfl) rfl ?_
      refine Ops.quiet (Qt.pick_f rfl rfl g14) rfl ?_
      refine Ops.quiet (Qt.move rfl) rfl ?_
      refine Ops.guard rfl rfl rfl rfl (fun g19 => ?_) (fun g19 => ?_)
      · have g19' := g19
        try simp only [decide_eq_true_eq, decide_eq_false_iff_not, beq_iff_eq, beq_eq_false_iff_ne, bne_iff_ne, ne_eq, Bool.not_eq_true', Bool.not_eq_false', bne_eq_false_iff_eq, Bool.not_eq_eq_eq_not, Bool.not_true, Bool.not_false] at g19'
        refine Ops.quiet (Qt.move rfl) rfl ?_
        refine Ops.guard_yes rfl rfl rfl rfl g19 ?_
        refine Ops.eff (Ef.call (fok fab_all rfl Tryz.func68 rfl) rfl (spec_sindex _ _)) rfl ?_
        rintro _ _ ⟨rfl, rfl⟩
        refine Ops.guard_yes rfl rfl rfl rfl g19 ?_
        refine Ops.quiet (Qt.geq rfl rfl) rfl ?_
        refine Ops.quiet (Qt.pick_f rfl rfl g19) rfl ?_
        refine Ops.quiet (Qt.move rfl) rfl ?_
        refine Ops.guard rfl rfl rfl rfl (fun g24 => ?_) (fun g24 => ?_)
        · have g24' := g24
          try simp only [decide_eq_true_eq, decide_eq_false_iff_not, beq_iff_eq, beq_eq_false_iff_ne, bne_iff_ne, ne_eq, Bool.not_eq_true', Bool.not_eq_false', bne_eq_false_iff_eq, Bool.not_eq_eq_eq_not, Bool.not_true, Bool.not_false] at g24'
          refine Ops.quiet (Qt.move rfl) rfl ?_
          refine Ops.guard_yes rfl rfl rfl rfl g24 ?_
          refine Ops.quiet (Qt.len_str rfl (tk rfl)) rfl ?_
          refine Ops.guard_yes rfl rfl rfl rfl g24 ?_
          refine Ops.quiet (Qt.gtr rfl rfl) rfl ?_
          refine Ops.quiet (Qt.pick_f rfl rfl g24) rfl ?_
          refine Ops.nil ?_
          refine H.then_normal ?_
          refine H.cond rfl (fun h28 => ?_) (fun h28 => ?_)
          · try simp only [decide_eq_true_eq, decide_eq_false_iff_not, beq_iff_eq, beq_eq_false_iff_ne, bne_iff_ne, ne_eq, Bool.not_eq_true', Bool.not_eq_false', bne_eq_false_iff_eq, Bool.not_eq_eq_eq_not, Bool.not_true, Bool.not_false] at h28
            refine H.seq ?_
            refine H.region ?_
            refine Ops.quiet (Qt.assign rfl) rfl ?_
            refine Ops.nil ?_
            refine H.then_normal ?_
            refine H.ret ?_
            refine H.blk_ret ?_
            refine H.then_ret ?_
            refine H.then_ret ?_
            refine H.blk_ret ?_
            refine H.then_ret ?_
            refine (H.ends rfl (.cons (.tmp rfl) .nil) ?_)
            refine ⟨?_, rfl⟩
            have hb : okB s = false := by
              simp [okB, h28]
            rw [goodB_not (hs' ▸ hmem) hb]; rfl
          · try simp only [decide_eq_true_eq, decide_eq_false_iff_not, beq_iff_eq, beq_eq_false_iff_ne, bne_iff_ne, ne_eq, Bool.not_eq_true', Bool.not_eq_false', bne_eq_false_iff_eq, Bool.not_eq_eq_eq_not, Bool.not_true, Bool.not_false] at h28
            refine H.skip ?_
            refine H.blk_normal ?_
            refine H.then_normal ?_
            refine H.region ?_
            refine Ops.quiet (Qt.add64 rfl rfl (by omega) (by omega)) rfl ?_
            refine Ops.quiet (Qt.move rfl) rfl ?_
            refine Ops.nil ?_
            refine H.then_normal ?_
            refine H.round (k + 1) ⟨by omega, fun j hj => ?_⟩ (by omega) (by repeat (first | exact trivial | refine ⟨rfl, ?_⟩)) (fun w hw => hw)
            rcases Nat.lt_succ_iff_lt_or_eq.1 hj with hj | rfl
            · exact hg j hj
            · rw [← hs']
              have h1 : ¬ 0 ≤ Lib.indexByte s 0 := g14'
              have h2 : ¬ 0 ≤ Lib.indexByte s 10 := g19'
              have h3 : ¬ 0 ≤ Lib.indexByte s 13 := g24'
              simp only [okB, decide_eq_false h1, decide_eq_false h2, decide_eq_false h3, decide_eq_false h28, Bool.or_false, Bool.not_false]
        · have g24' := g24
          try simp only [decide_eq_true_eq, decide_eq_false_iff_not, beq_iff_eq, beq_eq_false_iff_ne, bne_iff_ne, ne_eq, Bool.not_eq_true', Bool.not_eq_false', bne_eq_false_iff_eq, Bool.not_eq_eq_eq_not, Bool.not_true, Bool.not_false] at g24'
          refine Ops.guard_no rfl rfl rfl rfl g24 ?_
          refine Ops.guard_no rfl rfl rfl rfl g24 ?_
          refine Ops.quiet (Qt.pick_t rfl rfl g24) rfl ?_
          refine Ops.nil ?_
          refine H.then_normal ?_
          refine H.cond_true rfl (by rfl) ?_
          refine H.seq ?_
          refine H.region ?_
          refine Ops.quiet (Qt.assign rfl) rfl ?_
          refine Ops.nil ?_
          refine H.then_normal ?_
          refine H.ret ?_
          refine H.blk_ret ?_
          refine H.then_ret ?_
          refine H.then_ret ?_
          refine H.blk_ret ?_
          refine H.then_ret ?_
          refine (H.ends rfl (.cons (.tmp rfl) .nil) ?_)
          refine ⟨?_, rfl⟩
          have hb : okB s = false := by
            have h1 : 0 ≤ Lib.indexByte s 13 := g24'
            simp [okB, h1]
          rw [goodB_not (hs' ▸ hmem) hb]; rfl
      · have g19' := g19
        try simp only [decide_eq_true_eq, decide_eq_false_iff_not, beq_iff_eq, beq_eq_false_iff_ne, bne_iff_ne, ne_eq, Bool.not_eq_true', Bool.not_eq_false', bne_eq_false_iff_eq, Bool.not_eq_eq_eq_not, Bool.not_true, Bool.not_false] at g19'
        refine Ops.guard_no rfl rfl rfl rfl g19 ?_
        refine Ops.guard_no rfl rfl rfl rfl g19 ?_
        refine Ops.quiet (Qt.pick_t rfl rfl g19) rfl ?_
        refine Ops.quiet (Qt.move rfl) rfl ?_
        refine Ops.guard rfl rfl rfl rfl (fun g24 => ?_) (fun g24 => ?_)
        · have g24' := g24
          try simp only [decide_eq_true_eq, decide_eq_false_iff_not, beq_iff_eq, beq_eq_false_iff_ne, bne_iff_ne, ne_eq, Bool.not_eq_true', Bool.not_eq_false', bne_eq_false_iff_eq, Bool.not_eq_eq_eq_not, Bool.not_true, Bool.not_false] at g24'
          exact Bool.noConfusion g24
        · have g24' := g24
          try simp only [decide_eq_true_eq, decide_eq_false_iff_not, beq_iff_eq, beq_eq_false_iff_ne, bne_iff_ne, ne_eq, Bool.not_eq_true', Bool.not_eq_false', bne_eq_false_iff_eq, Bool.not_eq_eq_eq_not, Bool.not_true, Bool.not_false] at g24'
          refine Ops.guard_no rfl rfl rfl rfl g24 ?_
          refine Ops.guard_no rfl rfl rfl rfl g24 ?_
          refine Ops.quiet (Qt.pick_t rfl rfl g24) rfl ?_
          refine Ops.nil ?_
          refine H.then_normal ?_
          refine H.cond_true rfl (by rfl) ?_
          refine H.seq ?_
          refine H.region ?_
          refine Ops.quiet (Qt.assign rfl) rfl ?_
          refine Ops.nil ?_
          refine H.then_normal ?_
          refine H.ret ?_
          refine H.blk_ret ?_
          refine H.then_ret ?_
          refine H.then_ret ?_
          refine H.blk_ret ?_
          refine H.then_ret ?_
          refine (H.ends rfl (.cons (.tmp rfl) .nil) ?_)
          refine ⟨?_, rfl⟩
          have hb : okB s = false := by
            have h1 : 0 ≤ Lib.indexByte s 10 := g19'
            simp [okB, h1]
          rw [goodB_not (hs' ▸ hmem) hb]; rfl
    · have g14' := g14
      try simp only [decide_eq_true_eq, decide_eq_false_iff_not, beq_iff_eq, beq_eq_false_iff_ne, bne_iff_ne, ne_eq, Bool.not_eq_true', Bool.not_eq_false', bne_eq_false_iff_eq, Bool.not_eq_eq_eq_not, Bool.not_true, Bool.not_false] at g14'
      refine Ops.guard_no rfl rfl rfl rfl g14 ?_
      refine Ops.guard_no rfl rfl rfl rfl g14 ?_
      refine Ops.quiet (Qt.pick_t rfl rfl g14) rfl ?_
      refine Ops.quiet (Qt.move rfl) rfl ?_
      refine Ops.guard rfl rfl rfl rfl (fun g19 => ?_) (fun g19 => ?_)
      · have g19' := g19
        try simp only [decide_eq_true_eq, decide_eq_false_iff_not, beq_iff_eq, beq_eq_false_iff_ne, bne_iff_ne, ne_eq, Bool.not_eq_true', Bool.not_eq_false', bne_eq_false_iff_eq, Bool.not_eq_eq_eq_not, Bool.not_true, Bool.not_false] at g19'
        exact Bool.noConfusion g19
      · have g19' := g19
        try simp only [decide_eq_true_eq, decide_eq_false_iff_not, beq_iff_eq, beq_eq_false_iff_ne, bne_iff_ne, ne_eq, Bool.not_eq_true', Bool.not_eq_false', bne_eq_false_iff_eq, Bool.not_eq_eq_eq_not, Bool.not_true, Bool.not_false] at g19'
        refine Ops.guard_no rfl rfl rfl rfl g19 ?_
        refine Ops.guard_no rfl rfl rfl rfl g19 ?_
        refine Ops.quiet (Qt.pick_t rfl rfl g19) rfl ?_
        refine Ops.quiet (Qt.move rfl) rfl ?_
        refine Ops.guard rfl rfl rfl rfl (fun g24 => ?_) (fun g24 => ?_)
        · have g24' := g24
          try simp only [decide_eq_true_eq, decide_eq_false_iff_not, beq_iff_eq, beq_eq_false_iff_ne, bne_iff_ne, ne_eq, Bool.not_eq_true', Bool.not_eq_false', bne_eq_false_iff_eq, Bool.not_eq_eq_eq_not, Bool.not_true, Bool.not_false] at g24'
          exact Bool.noConfusion g24
        · have g24' := g24
          try simp only [decide_eq_true_eq, decide_eq_false_iff_not, beq_iff_eq, beq_eq_false_iff_ne, bne_iff_ne, ne_eq, Bool.not_eq_true', Bool.not_eq_false', bne_eq_false_iff_eq, Bool.not_eq_eq_eq_not, Bool.not_true, Bool.not_false] at g24'
          refine Ops.guard_no rfl rfl rfl rfl g24 ?_
          refine Ops.guard_no rfl rfl rfl rfl g24 ?_
          refine Ops.quiet (Qt.pick_t rfl rfl g24) rfl ?_
          refine Ops.nil ?_
          refine H.then_normal ?_
          refine H.cond_true rfl (by rfl) ?_
          refine H.seq ?_
          refine H.region ?_
          refine Ops.quiet (Qt.assign rfl) rfl ?_
          refine Ops.nil ?_
          refine H.then_normal ?_
          refine H.ret ?_
          refine H.blk_ret ?_
          refine H.then_ret ?_
          refine H.then_ret ?_
          refine H.blk_ret ?_
          refine H.then_ret ?_
          refine (H.ends rfl (.cons (.tmp rfl) .nil) ?_)
          refine ⟨?_, rfl⟩
          have hb : okB s = false := by
            have h1 : 0 ≤ Lib.indexByte s 0 := g14'
            simp [okB, h1]
          rw [goodB_not (hs' ▸ hmem) hb]; rfl
  · try simp only [decide_eq_true_eq, decide_eq_false_iff_not, beq_iff_eq, beq_eq_false_iff_ne, bne_iff_ne, ne_eq, Bool.not_eq_true', Bool.not_eq_false', bne_eq_false_iff_eq, Bool.not_eq_eq_eq_not, Bool.not_true, Bool.not_false] at h8
    have hall : ∀ s ∈ l, okB s = true := by
      intro s hs
      obtain ⟨j, hj, rfl⟩ := List.getElem_of_mem hs
      have := hg j (by omega)
      simpa [List.getD_eq_getElem?_getD, hj] using this
    have hz := sizeL_good hall
    have hall' : l.all okB = true := List.all_eq_true.2 hall
    refine H.exit ?_
    refine H.then_exit ?_
    refine H.then_exit ?_
    refine H.blk_hit ?_
    refine H.then_normal ?_
    refine H.seq ?_
    refine H.region ?_
    refine Ops.quiet (Qt.move rfl) rfl ?_
    refine Ops.eff (Ef.call (fok fab_all rfl Tryz.func69 rfl) rfl (spec_dsize w0 l _ hr (by omega))) rfl ?_
    rintro _ _ ⟨rfl, rfl⟩
    refine Ops.quiet (Qt.leq rfl rfl) rfl ?_
    refine Ops.quiet (Qt.assign rfl) rfl ?_
    refine Ops.nil ?_
    refine H.then_normal ?_
    refine H.ret ?_
    refine (H.ends rfl (.cons (.tmp rfl) .nil) ?_)
    refine ⟨?_, rfl⟩
    unfold goodB
    rw [hall']
    show bol (decide ((sizeL l : Int) ≤ 65536)) = bol (true && decide (sizeL l ≤ 65536))
    rw [Bool.true_and]
    congr 1
    exact decide_eq_decide.2 (by omega)
def stuffB (l : List Bs) : Bs := (l.map fun s => (if Lib.hasPrefix s [46] then [46] else []) ++ s ++ [13, 10]).flatten
theorem stuffB_len (l : List Bs) : (stuffB l).length ≤ sizeL l + l.length := by
  induction l with
  | nil => simp [stuffB, sizeL]
  | cons s l ih =>
    have h1 : stuffB (s :: l) = ((if Lib.hasPrefix s [46] then [46] else []) ++ s ++ [13, 10]) ++ stuffB l := by simp [stuffB]
    have h2 : sizeL (s :: l) = s.length + 2 + sizeL l := by simp [sizeL]
    rw [h1, h2]
    simp only [List.length_append, List.length_cons, List.length_nil]
    split <;> simp <;> omega
theorem stuffB_append (a b : List Bs) : stuffB (a ++ b) = stuffB a ++ stuffB b := by simp [stuffB]
theorem stuffB_take (l : List Bs) (k : Nat) (h : k < l.length) : stuffB (l.take (k + 1)) = stuffB (l.take k) ++ ((if Lib.hasPrefix (l.getD k []) [46] then [46] else []) ++ l.getD k [] ++ [13, 10]) := by
  rw [List.take_succ_eq_append_getElem h, stuffB_append]
  simp [stuffB, List.getD_eq_getElem?_getD, h]
/-- What dots.Stuff answers. -/
def stuffV (l : List Bs) : Bs × Int := if goodB l then (stuffB l ++ [46, 13, 10], 0) else ([], 2)
end Go.Proofs.YtbglphpinhjfeaaGreatDoor
