/- The readers of lines and of replies. -/
import Derived.Test.YtimldpbddkhedaaDoorBrg
namespace Go.Proofs.YtimldpbddkhedaaDoor
open Go Go.RowKit
set_option maxRecDepth 100000
set_option linter.unusedVariables false
set_option linter.unusedSimpArgs false
attribute [local irreducible] Go.wpList Go.Code.wp Go.Exit.then Go.Exit.inBlock Go.Exit.noGoto Ends blk osl oblk LoopI Own Spec
abbrev Bs := List UInt8
abbrev ptr (b : Nat) : Value := .pointer (some ⟨b, 0, none⟩)
abbrev unit : Value := .tuple #[]
def lineR (b : Nat) (wt : Bs) : SProp := exS fun A => exS fun n => exS fun c => bun [blk b [.slice A n c] 73, osl 5 A n c (wt.map u8v)]
def replyR (b : Nat) (code : Int) (ls : List Bs) : SProp := exS fun A => exS fun n => exS fun c => bun [blk b [num code, .slice A n c] 75, osl 9 A n c (ls.map str)]
theorem lineR_mk {b n c : Nat} {wt : Bs} {A : Option Addr} {fr : List SProp} {w0 w : World} (h : Own w0 w (blk b [.slice A n c] 73 :: osl 5 A n c (wt.map u8v) :: fr)) : Own w0 w (lineR b wt :: fr) :=
  Own.ex_iff.2 ⟨A, Own.ex_iff.2 ⟨n, Own.ex_iff.2 ⟨c, Own.bun_iff.2 h⟩⟩⟩
theorem replyR_mk {b n c : Nat} {code : Int} {ls : List Bs} {A : Option Addr} {fr : List SProp} {w0 w : World} (h : Own w0 w (blk b [num code, .slice A n c] 75 :: osl 9 A n c (ls.map str) :: fr)) : Own w0 w (replyR b code ls :: fr) :=
  Own.ex_iff.2 ⟨A, Own.ex_iff.2 ⟨n, Own.ex_iff.2 ⟨c, Own.bun_iff.2 h⟩⟩⟩
theorem H.open_line {N : Nat} {w0 : World} {e : Env} {J : Act → World → Prop} {b : Nat} {wt : Bs} {fr : List SProp}
    (h : ∀ (A : Option Addr) (n c : Nat), (wt.length = n ∧ n ≤ c ∧ c ≤ 9223372036854775807) → H N w0 e (blk b [.slice A n c] 73 :: osl 5 A n c (wt.map u8v) :: fr) J) : H N w0 e (lineR b wt :: fr) J := by
  refine H.ex fun A => H.ex fun n => H.ex fun c => H.bun ?_
  simp only [List.cons_append, List.nil_append]
  refine H.fact (fun w hw => (Own.len (osl_reads (.tail _ (.head _))) hw)) fun tl => ?_
  simp only [List.length_map] at tl
  exact h A n c tl
theorem H.open_reply {N : Nat} {w0 : World} {e : Env} {J : Act → World → Prop} {b : Nat} {code : Int} {ls : List Bs} {fr : List SProp}
    (h : ∀ (A : Option Addr) (n c : Nat), (ls.length = n ∧ n ≤ c ∧ c ≤ 9223372036854775807) → H N w0 e (blk b [num code, .slice A n c] 75 :: osl 9 A n c (ls.map str) :: fr) J) : H N w0 e (replyR b code ls :: fr) J := by
  refine H.ex fun A => H.ex fun n => H.ex fun c => H.bun ?_
  simp only [List.cons_append, List.nil_append]
  refine H.fact (fun w hw => (Own.len (osl_reads (.tail _ (.head _))) hw)) fun tl => ?_
  simp only [List.length_map] at tl
  exact h A n c tl
attribute [irreducible] lineR replyR

theorem spec_lnew (w0 : World) (cs : List SProp) : Spec Tryd.prog w0 21 [] cs (fun v cs' => ∃ b, v = ptr b ∧ cs' = lineR b [] :: cs) := by
  refine Spec.of_body Tryd.func21 rfl Tryd.ntmps21 rfl ?_
  refine H.seq ?_
  refine H.region ?_
  refine Ops.quiet (Qt.assign rfl) rfl ?_
  refine Ops.nil ?_
  refine H.then_normal ?_
  refine H.seq ?_
  refine H.region ?_
  refine Ops.quiet (Qt.build (tk rfl) (zk rfl) rfl (by rfl)) rfl ?_
  refine Ops.eff (Ef.box rfl rfl) rfl ?_
  rintro _ _ ⟨b2, rfl, rfl⟩
  refine Ops.quiet (Qt.assign rfl) rfl ?_
  refine Ops.nil ?_
  refine H.then_normal ?_
  refine H.ret ?_
  refine H.conv (fun w hw => lineR_mk (A := none) (n := 0) (c := 0) (wt := []) ((Own.nil_osl 5 hw).perm (.swap _ _ _))) (H.ends rfl (.cons (.tmp rfl) .nil) ?_)
  exact ⟨_, rfl, rfl⟩
theorem spec_rnew (w0 : World) (cs : List SProp) : Spec Tryd.prog w0 22 [] cs (fun v cs' => ∃ b, v = ptr b ∧ cs' = replyR b 0 [] :: cs) := by
  refine Spec.of_body Tryd.func22 rfl Tryd.ntmps22 rfl ?_
  refine H.seq ?_
  refine H.region ?_
  refine Ops.quiet (Qt.assign rfl) rfl ?_
  refine Ops.nil ?_
  refine H.then_normal ?_
  refine H.seq ?_
  refine H.region ?_
  refine Ops.quiet (Qt.build (tk rfl) (zk rfl) rfl (by rfl)) rfl ?_
  refine Ops.eff (Ef.box rfl rfl) rfl ?_
  rintro _ _ ⟨b2, rfl, rfl⟩
  refine Ops.quiet (Qt.assign rfl) rfl ?_
  refine Ops.nil ?_
  refine H.then_normal ?_
  refine H.ret ?_
  refine H.conv (fun w hw => replyR_mk (A := none) (n := 0) (c := 0) (ls := []) ((Own.nil_osl 9 hw).perm (.swap _ _ _))) (H.ends rfl (.cons (.tmp rfl) .nil) ?_)
  exact ⟨_, rfl, rfl⟩
theorem spec_lfeed (w0 : World) (b : Nat) (wt x : Bs) {A : Option Addr} {n c : Nat} (fr : List SProp) (hr : Reads w0 fr A n c (x.map u8v)) (hl : wt.length + x.length ≤ 140737488355328) :
    Spec Tryd.prog w0 26 [ptr b, .slice A n c] (lineR b wt :: fr) (fun v cs' => v = unit ∧ cs' = lineR b (wt ++ x) :: fr) := by
  refine Spec.of_body Tryd.func26 rfl Tryd.ntmps26 rfl ?_
  refine H.open_line fun lA ln lc ⟨ll1, ll2, ll3⟩ => ?_
  refine H.fact (fun w hw => (Own.len (hr.tail.tail) hw)) fun ⟨xl1, xl2, xl3⟩ => ?_
  simp only [List.length_map] at xl1
  refine H.seq ?_
  refine H.region ?_
  refine Ops.quiet (Qt.move rfl) rfl ?_
  refine Ops.quiet (Qt.ptr_ne_nil rfl (tk rfl)) rfl ?_
  refine Ops.nil ?_
  refine H.then_normal ?_
  refine H.cond_true rfl (by rfl) ?_
  refine H.region ?_
  refine Ops.quiet (Qt.move rfl) rfl ?_
  refine Ops.quiet (Qt.move rfl) rfl ?_
  refine Ops.quiet (Qt.nilCheck rfl) rfl ?_
  refine Ops.quiet (Qt.fieldAddr rfl (tk rfl) rfl) rfl ?_
  refine Ops.quiet (Qt.load rfl (tk rfl) rfl (by repeat (first | exact List.Mem.head _ | apply List.Mem.tail)) (by rfl)) rfl ?_
  refine Ops.quiet (Qt.move rfl) rfl ?_
  refine Ops.eff (Ef.append rfl rfl (tk rfl) (tk rfl) rfl (zk rfl) (by repeat (first | assumption | exact Reads.of_head | apply Reads.tail)) (by intro _ _; repeat (first | exact Upd.head | apply Upd.tail)) (ones_map (fun _ => rfl) _) (by dsimp only; omega) (by simp only [Go.maxLen]; omega)) rfl ?_
  rintro _ _ ⟨A12, c12, rfl, rfl⟩
  refine Ops.quiet (Qt.nilCheck rfl) rfl ?_
  refine Ops.quiet (Qt.fieldAddr rfl (tk rfl) rfl) rfl ?_
  refine Ops.eff (Ef.store rfl rfl (tk rfl) rfl rfl (by repeat (first | exact ones_nil | refine ones_cons rfl ?_)) (by repeat (first | exact Upd.head | apply Upd.tail)) (by rfl)) rfl ?_
  rintro _ _ rfl
  refine Ops.nil ?_
  refine H.conv (fun w hw => lineR_mk (wt := wt ++ x) (by rw [List.map_append]; exact hw)) (H.ends_n rfl (ResAll.nil) ?_)
  exact ⟨rfl, rfl⟩
/-- A line that came: its kind and its text. -/
structure Ln where
  kind : Int
  text : Bs
abbrev Ln.v (l : Ln) : Value := .agg #[num l.kind, str l.text]
def oddB (b : Bs) : Bool := decide (0 ≤ Lib.indexByte b 0) || decide (0 ≤ Lib.indexByte b 13) || decide (0 ≤ Lib.indexByte b 10)
def lineOf (b : Bs) (most : Int) : Ln := if most < b.length + 2 then ⟨2, []⟩ else if oddB b then ⟨3, []⟩ else ⟨1, b⟩
theorem spec_cut_hit {w0 : World} (hG : Gl w0) {cs : List SProp} {A B : Option Addr} {n c k c2 i : Nat} {l s : List UInt8} (hr : Reads w0 cs A n c (l.map u8v)) (hs : Reads w0 cs B k c2 (s.map u8v)) (hn : n < 4294967281) (hi : Lib.index l s = i) :
    Spec Tryd.prog w0 42 [.slice A n c, .slice B k c2] cs (fun v cs' => v = .tuple #[.slice A i c, .slice (cutA A c (i + k)) (n - (i + k)) (c - (i + k)), bol true] ∧ cs' = cs) := by
  refine (spec_cut hG hr hs hn).mono ?_
  rintro v cs' ⟨rfl, rfl⟩
  refine ⟨?_, rfl⟩
  rw [hi]
  unfold Lib.cutV Lib.fromV cutA
  rw [if_pos (by omega)]
  rfl
theorem spec_cut_miss {w0 : World} (hG : Gl w0) {cs : List SProp} {A B : Option Addr} {n c k c2 : Nat} {l s : List UInt8} (hr : Reads w0 cs A n c (l.map u8v)) (hs : Reads w0 cs B k c2 (s.map u8v)) (hn : n < 4294967281) (hi : Lib.index l s = -1) :
    Spec Tryd.prog w0 42 [.slice A n c, .slice B k c2] cs (fun v cs' => v = .tuple #[.slice A n c, .slice none 0 0, bol false] ∧ cs' = cs) := by
  refine (spec_cut hG hr hs hn).mono ?_
  rintro v cs' ⟨rfl, rfl⟩
  refine ⟨?_, rfl⟩
  rw [hi]
  rfl
theorem spec_lnext_miss (w0 : World) (hG : Gl w0) (b : Nat) (wt : Bs) (most : Int) (fr : List SProp) (hl : wt.length < 4294967281) (hi : Lib.index wt [13, 10] = -1) :
    Spec Tryd.prog w0 27 [ptr b, num most] (lineR b wt :: fr) (fun v cs' => v = .tuple #[Ln.v ⟨0, []⟩, bol false] ∧ cs' = lineR b wt :: fr) := by
  refine Spec.of_body Tryd.func27 rfl Tryd.ntmps27 rfl ?_
  refine H.open_line fun lA ln lc ⟨ll1, ll2, ll3⟩ => ?_
  refine H.seq ?_
  refine H.region ?_
  refine Ops.eff (Ef.alloc (zk rfl)) rfl ?_
  rintro _ _ ⟨b4, rfl, rfl⟩
  refine Ops.quiet (Qt.assign rfl) rfl ?_
  refine Ops.nil ?_
  refine H.then_normal ?_
  refine H.seq ?_
  refine H.seq ?_
  refine H.region ?_
  refine Ops.quiet (Qt.move rfl) rfl ?_
  refine Ops.quiet (Qt.ptr_eq_nil rfl (tk rfl)) rfl ?_
  refine Ops.nil ?_
  refine H.then_normal ?_
  refine H.cond_false rfl (by rfl) ?_
  refine H.skip ?_
  refine H.then_normal ?_
  refine H.seq ?_
  refine H.region ?_
  refine Ops.quiet (Qt.move rfl) rfl ?_
  refine Ops.quiet (Qt.nilCheck rfl) rfl ?_
  refine Ops.quiet (Qt.fieldAddr rfl (tk rfl) rfl) rfl ?_
  refine Ops.quiet (Qt.load rfl (tk rfl) rfl (by repeat (first | exact List.Mem.head _ | apply List.Mem.tail)) (by rfl)) rfl ?_
  refine Ops.eff (Ef.buildSlice (tk rfl) (tk rfl) rfl (zk rfl) rfl rfl rfl (by repeat (first | exact ones_nil | refine ones_cons rfl ?_))) rfl ?_
  rintro _ _ ⟨A17, c17, rfl, rfl⟩
  refine Ops.eff (Ef.conv_mark rfl (tk rfl) (tk rfl) (by repeat (first | exact Upd.head | apply Upd.tail)) (by omega)) rfl ?_
  rintro _ _ ⟨rfl, rfl⟩
  refine Ops.eff (Ef.call (fok fab_all rfl Tryd.func42 rfl) rfl (spec_cut_miss hG (l := wt) (s := [13, 10]) (by repeat (first | assumption | exact Reads.of_head | apply Reads.tail)) (by repeat (first | assumption | exact Reads.of_head | apply Reads.tail)) (by omega) hi)) rfl ?_
  rintro _ _ ⟨rfl, rfl⟩
  refine Ops.quiet (Qt.move rfl) rfl ?_
  refine Ops.quiet (Qt.extract rfl rfl) rfl ?_
  refine Ops.quiet (Qt.extract rfl rfl) rfl ?_
  refine Ops.quiet (Qt.extract rfl rfl) rfl ?_
  refine Ops.quiet (Qt.assign rfl) rfl ?_
  refine Ops.quiet (Qt.assign rfl) rfl ?_
  refine Ops.quiet (Qt.assign rfl) rfl ?_
  refine Ops.nil ?_
  refine H.then_normal ?_
  refine H.seq ?_
  refine H.seq ?_
  refine H.region ?_
  refine Ops.quiet (Qt.move rfl) rfl ?_
  refine Ops.quiet (Qt.not rfl) rfl ?_
  refine Ops.nil ?_
  refine H.then_normal ?_
  refine H.cond_true rfl (by rfl) ?_
  refine H.seq ?_
  refine H.region ?_
  refine Ops.quiet (Qt.build (tk rfl) (zk rfl) rfl (by rfl)) rfl ?_
  refine Ops.eff (Ef.store rfl rfl (tk rfl) rfl rfl (by repeat (first | exact ones_nil | refine ones_cons rfl ?_)) (by repeat (first | exact Upd.head | apply Upd.tail)) (by rfl)) rfl ?_
  rintro _ _ rfl
  refine Ops.quiet (Qt.assign rfl) rfl ?_
  refine Ops.nil ?_
  refine H.then_normal ?_
  refine H.ret ?_
  refine H.then_ret ?_
  refine (H.ends_to (cs' := lineR b wt :: fr) rfl (.cons (.agg rfl (tk rfl) rfl (by repeat (first | exact List.Mem.head _ | apply List.Mem.tail)) (by rfl) (by rfl)) (.cons (.tmp rfl) .nil)) (fun w hw => ?_) ?_)
  · exact lineR_mk (hw.sub (by repeat (first | exact List.Sublist.refl _ | exact List.nil_sublist _ | apply List.Sublist.cons_cons | apply List.Sublist.cons)))
  · exact ⟨rfl, rfl⟩
theorem spec_lnext_hit (w0 : World) (hG : Gl w0) (b : Nat) (wt : Bs) (most : Int) (fr : List SProp) (hl : wt.length < 4294967281) {i : Nat} (hi : Lib.index wt [13, 10] = i) (him : i + 2 ≤ wt.length) :
    Spec Tryd.prog w0 27 [ptr b, num most] (lineR b wt :: fr) (fun v cs' => v = .tuple #[Ln.v (lineOf (wt.take i) most), bol true] ∧ cs' = lineR b (wt.drop (i + 2)) :: fr) := by
  refine Spec.of_body Tryd.func27 rfl Tryd.ntmps27 rfl ?_
  refine H.open_line fun lA ln lc ⟨ll1, ll2, ll3⟩ => ?_
  refine H.seq ?_
  refine H.region ?_
  refine Ops.eff (Ef.alloc (zk rfl)) rfl ?_
  rintro _ _ ⟨b4, rfl, rfl⟩
  refine Ops.quiet (Qt.assign rfl) rfl ?_
  refine Ops.nil ?_
  refine H.then_normal ?_
  refine H.seq ?_
  refine H.seq ?_
  refine H.region ?_
  refine Ops.quiet (Qt.move rfl) rfl ?_
  refine Ops.quiet (Qt.ptr_eq_nil rfl (tk rfl)) rfl ?_
  refine Ops.nil ?_
  refine H.then_normal ?_
  refine H.cond_false rfl (by rfl) ?_
  refine H.skip ?_
  refine H.then_normal ?_
  refine H.seq ?_
  refine H.region ?_
  refine Ops.quiet (Qt.move rfl) rfl ?_
  refine Ops.quiet (Qt.nilCheck rfl) rfl ?_
  refine Ops.quiet (Qt.fieldAddr rfl (tk rfl) rfl) rfl ?_
  refine Ops.quiet (Qt.load rfl (tk rfl) rfl (by repeat (first | exact List.Mem.head _ | apply List.Mem.tail)) (by rfl)) rfl ?_
  refine Ops.eff (Ef.buildSlice (tk rfl) (tk rfl) rfl (zk rfl) rfl rfl rfl (by repeat (first | exact ones_nil | refine ones_cons rfl ?_))) rfl ?_
  rintro _ _ ⟨A17, c17, rfl, rfl⟩
  refine Ops.eff (Ef.conv_mark rfl (tk rfl) (tk rfl) (by repeat (first | exact Upd.head | apply Upd.tail)) (by omega)) rfl ?_
  rintro _ _ ⟨rfl, rfl⟩
  refine Ops.eff (Ef.call (fok fab_all rfl Tryd.func42 rfl) rfl (spec_cut_hit hG (l := wt) (s := [13, 10]) (by repeat (first | assumption | exact Reads.of_head | apply Reads.tail)) (by repeat (first | assumption | exact Reads.of_head | apply Reads.tail)) (by omega) hi)) rfl ?_
  rintro _ _ ⟨rfl, rfl⟩
  refine Ops.quiet (Qt.move rfl) rfl ?_
  refine Ops.quiet (Qt.extract rfl rfl) rfl ?_
  refine Ops.quiet (Qt.extract rfl rfl) rfl ?_
  refine Ops.quiet (Qt.extract rfl rfl) rfl ?_
  refine Ops.quiet (Qt.assign rfl) rfl ?_
  refine Ops.quiet (Qt.assign rfl) rfl ?_
  refine Ops.quiet (Qt.assign rfl) rfl ?_
  refine Ops.nil ?_
  refine H.then_normal ?_
  refine H.seq ?_
  refine H.seq ?_
  refine H.region ?_
  refine Ops.quiet (Qt.move rfl) rfl ?_
  refine Ops.quiet (Qt.not rfl) rfl ?_
  refine Ops.nil ?_
  refine H.then_normal ?_
  refine H.cond_false rfl (by rfl) ?_
  refine H.skip ?_
  refine H.then_normal ?_
  refine H.seq ?_
  refine H.region ?_
  refine Ops.quiet (Qt.move rfl) rfl ?_
  refine Ops.quiet (Qt.move rfl) rfl ?_
  refine Ops.eff (Ef.call (fok fab_all rfl Tryd.func43 rfl) rfl (spec_bclone (l := wt.drop (i + 2)) (Reads.drop_map (by repeat (first | assumption | exact Reads.of_head | apply Reads.tail)) (by omega)) (by omega))) rfl ?_
  rintro _ _ ⟨A28, c28, rfl, rfl⟩
  refine Ops.quiet (Qt.nilCheck rfl) rfl ?_
  refine Ops.quiet (Qt.fieldAddr rfl (tk rfl) rfl) rfl ?_
  refine Ops.eff (Ef.store rfl rfl (tk rfl) rfl rfl (by repeat (first | exact ones_nil | refine ones_cons rfl ?_)) (by repeat (first | exact Upd.head | apply Upd.tail)) (by rfl)) rfl ?_
  rintro _ _ rfl
  refine Ops.nil ?_
  refine H.then_normal ?_
  refine H.seq ?_
  refine H.block ?_
  refine H.seq ?_
  refine H.region ?_
  refine Ops.quiet (Qt.move rfl) rfl ?_
  refine Ops.quiet (Qt.len_sl (ats := #[]) rfl (tk rfl)) rfl ?_
  refine Ops.quiet (Qt.add64 rfl rfl (by omega) (by omega)) rfl ?_
  refine Ops.quiet (Qt.move rfl) rfl ?_
  refine Ops.quiet (Qt.gtr rfl rfl) rfl ?_
  refine Ops.quiet (Qt.assign rfl) rfl ?_
  refine Ops.nil ?_
  refine H.then_normal ?_
  refine H.cond rfl (fun h31 => ?_) (fun h31 => ?_)
  · try simp only [decide_eq_true_eq, decide_eq_false_iff_not, beq_iff_eq, beq_eq_false_iff_ne, bne_iff_ne, ne_eq, Bool.not_eq_true', Bool.not_eq_false', bne_eq_false_iff_eq, Bool.not_eq_eq_eq_not, Bool.not_true, Bool.not_false] at h31
    refine H.seq ?_
    refine H.region ?_
    refine Ops.quiet (Qt.build (tk rfl) (zk rfl) rfl (by rfl)) rfl ?_
    refine Ops.eff (Ef.store rfl rfl (tk rfl) rfl rfl (by repeat (first | exact ones_nil | refine ones_cons rfl ?_)) (by repeat (first | exact Upd.head | apply Upd.tail)) (by rfl)) rfl ?_
    rintro _ _ rfl
    refine Ops.quiet (Qt.assign rfl) rfl ?_
    refine Ops.nil ?_
    refine H.then_normal ?_
    refine H.ret ?_
    refine H.blk_ret ?_
    refine H.then_ret ?_
    refine (H.ends_to (cs' := lineR b (wt.drop (i + 2)) :: fr) rfl (.cons (.agg rfl (tk rfl) rfl (by repeat (first | exact List.Mem.head _ | apply List.Mem.tail)) (by rfl) (by rfl)) (.cons (.tmp rfl) .nil)) (fun w hw => ?_) ?_)
    · refine lineR_mk (A := A28) (n := ln - (i + 2)) (c := c28) (Own.perm (.swap _ _ _) (Own.sub ?_ hw)); repeat (first | exact List.Sublist.refl _ | exact List.nil_sublist _ | apply List.Sublist.cons_cons | apply List.Sublist.cons)
    · refine ⟨?_, rfl⟩
      have hi2 : (wt.take i).length = i := by rw [List.length_take]; omega
      have e1 : lineOf (wt.take i) most = ⟨2, []⟩ := by
        unfold lineOf oddB
        simp [hi2, h31]
      rw [e1]; rfl
  · try simp only [decide_eq_true_eq, decide_eq_false_iff_not, beq_iff_eq, beq_eq_false_iff_ne, bne_iff_ne, ne_eq, Bool.not_eq_true', Bool.not_eq_false', bne_eq_false_iff_eq, Bool.not_eq_eq_eq_not, Bool.not_true, Bool.not_false] at h31
    refine H.seq ?_
    refine H.region ?_
    refine Ops.quiet (Qt.move rfl) rfl ?_
    refine Ops.eff (Ef.call (fok fab_all rfl Tryd.func44 rfl) rfl (spec_bindex (l := wt.take i) (Reads.take_map (by repeat (first | assumption | exact Reads.of_head | apply Reads.tail)) (by omega)) 0)) rfl ?_
    rintro _ _ ⟨rfl, rfl⟩
    refine Ops.quiet (Qt.geq rfl rfl) rfl ?_
    refine Ops.quiet (Qt.move rfl) rfl ?_
    refine Ops.guard rfl rfl rfl rfl (fun g42 => ?_) (fun g42 => ?_)
    · have g42' := g42
      try simp only [decide_eq_true_eq, decide_eq_false_iff_not, beq_iff_eq, beq_eq_false_iff_ne, bne_iff_ne, ne_eq, Bool.not_eq_true', Bool.not_eq_false', bne_eq_false_iff_eq, Bool.not_eq_eq_eq_not, Bool.not_true, Bool.not_false] at g42'
      refine Ops.quiet (Qt.move rfl) rfl ?_
      refine Ops.guard_yes rfl rfl rfl rfl g42 ?_
      refine Ops.eff (Ef.call (fok fab_all rfl Tryd.func44 rfl) rfl (spec_bindex (l := wt.take i) (Reads.take_map (by repeat (first | assumption | exact Reads.of_head | apply Reads.tail)) (by omega)) 13)) rfl ?_
      rintro _ _ ⟨rfl, rfl⟩
      refine Ops.guard_yes rfl rfl rfl rfl g42 ?_
      refine Ops.quiet (Qt.geq rfl rfl) rfl ?_
      refine Ops.quiet (Qt.pick_f rfl rfl g42) rfl ?_
      refine Ops.quiet (Qt.move rfl) rfl ?_
      refine Ops.guard rfl rfl rfl rfl (fun g47 => ?_) (fun g47 => ?_)
      · have g47' := g47
        try simp only [decide_eq_true_eq, decide_eq_false_iff_not, beq_iff_eq, beq_eq_false_iff_ne, bne_iff_ne, ne_eq, Bool.not_eq_true', Bool.not_eq_false', bne_eq_false_iff_eq, Bool.not_eq_eq_eq_not, Bool.not_true, Bool.not_false] at g47'
        refine Ops.quiet (Qt.move rfl) rfl ?_
        refine Ops.guard_yes rfl rfl rfl rfl g47 ?_
        refine Ops.eff (Ef.call (fok fab_all rfl Tryd.func44 rfl) rfl (spec_bindex (l := wt.take i) (Reads.take_map (by repeat (first | assumption | exact Reads.of_head | apply Reads.tail)) (by omega)) 10)) rfl ?_
        rintro _ _ ⟨rfl, rfl⟩
        refine Ops.guard_yes rfl rfl rfl rfl g47 ?_
        refine Ops.quiet (Qt.geq rfl rfl) rfl ?_
        refine Ops.quiet (Qt.pick_f rfl rfl g47) rfl ?_
        refine Ops.quiet (Qt.assign rfl) rfl ?_
        refine Ops.nil ?_
        refine H.then_normal ?_
        refine H.cond rfl (fun h38 => ?_) (fun h38 => ?_)
        · try simp only [decide_eq_true_eq, decide_eq_false_iff_not, beq_iff_eq, beq_eq_false_iff_ne, bne_iff_ne, ne_eq, Bool.not_eq_true', Bool.not_eq_false', bne_eq_false_iff_eq, Bool.not_eq_eq_eq_not, Bool.not_true, Bool.not_false] at h38
          refine H.seq ?_
          refine H.region ?_
          refine Ops.quiet (Qt.build (tk rfl) (zk rfl) rfl (by rfl)) rfl ?_
          refine Ops.eff (Ef.store rfl rfl (tk rfl) rfl rfl (by repeat (first | exact ones_nil | refine ones_cons rfl ?_)) (by repeat (first | exact Upd.head | apply Upd.tail)) (by rfl)) rfl ?_
          rintro _ _ rfl
          refine Ops.quiet (Qt.assign rfl) rfl ?_
          refine Ops.nil ?_
          refine H.then_normal ?_
          refine H.ret ?_
          refine H.blk_ret ?_
          refine H.then_ret ?_
          refine (H.ends_to (cs' := lineR b (wt.drop (i + 2)) :: fr) rfl (.cons (.agg rfl (tk rfl) rfl (by repeat (first | exact List.Mem.head _ | apply List.Mem.tail)) (by rfl) (by rfl)) (.cons (.tmp rfl) .nil)) (fun w hw => ?_) ?_)
          · refine lineR_mk (A := A28) (n := ln - (i + 2)) (c := c28) (Own.perm (.swap _ _ _) (Own.sub ?_ hw)); repeat (first | exact List.Sublist.refl _ | exact List.nil_sublist _ | apply List.Sublist.cons_cons | apply List.Sublist.cons)
          · refine ⟨?_, rfl⟩
            have hi2 : (wt.take i).length = i := by rw [List.length_take]; omega
            have e1 : lineOf (wt.take i) most = ⟨3, []⟩ := by
              unfold lineOf oddB
              simp [hi2, h31, h38]
            rw [e1]; rfl
        · try simp only [decide_eq_true_eq, decide_eq_false_iff_not, beq_iff_eq, beq_eq_false_iff_ne, bne_iff_ne, ne_eq, Bool.not_eq_true', Bool.not_eq_false', bne_eq_false_iff_eq, Bool.not_eq_eq_eq_not, Bool.not_true, Bool.not_false] at h38
          refine H.skip ?_
          refine H.blk_normal ?_
          refine H.then_normal ?_
          refine H.seq ?_
          refine H.region ?_
          refine Ops.quiet (Qt.move rfl) rfl ?_
          refine Ops.quiet (Qt.bytes_str (l := wt.take i) rfl (tk rfl) (tk rfl) (tk rfl) (Reads.take_map (by repeat (first | assumption | exact Reads.of_head | apply Reads.tail)) (by omega))) rfl ?_
          refine Ops.quiet (Qt.build (tk rfl) (zk rfl) rfl (by rfl)) rfl ?_
          refine Ops.eff (Ef.store rfl rfl (tk rfl) rfl rfl (by repeat (first | exact ones_nil | refine ones_cons rfl ?_)) (by repeat (first | exact Upd.head | apply Upd.tail)) (by rfl)) rfl ?_
          rintro _ _ rfl
          refine Ops.quiet (Qt.assign rfl) rfl ?_
          refine Ops.nil ?_
          refine H.then_normal ?_
          refine H.ret ?_
          refine (H.ends_to (cs' := lineR b (wt.drop (i + 2)) :: fr) rfl (.cons (.agg rfl (tk rfl) rfl (by repeat (first | exact List.Mem.head _ | apply List.Mem.tail)) (by rfl) (by rfl)) (.cons (.tmp rfl) .nil)) (fun w hw => ?_) ?_)
          · refine lineR_mk (A := A28) (n := ln - (i + 2)) (c := c28) (Own.perm (.swap _ _ _) (Own.sub ?_ hw)); repeat (first | exact List.Sublist.refl _ | exact List.nil_sublist _ | apply List.Sublist.cons_cons | apply List.Sublist.cons)
          · refine ⟨?_, rfl⟩
            have hi2 : (wt.take i).length = i := by rw [List.length_take]; omega
            have e1 : lineOf (wt.take i) most = ⟨1, wt.take i⟩ := by
              unfold lineOf oddB
              simp [hi2, h31, g42', g47', h38]
            rw [e1]; rfl
      · have g47' := g47
        try simp only [decide_eq_true_eq, decide_eq_false_iff_not, beq_iff_eq, beq_eq_false_iff_ne, bne_iff_ne, ne_eq, Bool.not_eq_true', Bool.not_eq_false', bne_eq_false_iff_eq, Bool.not_eq_eq_eq_not, Bool.not_true, Bool.not_false] at g47'
        refine Ops.guard_no rfl rfl rfl rfl g47 ?_
        refine Ops.guard_no rfl rfl rfl rfl g47 ?_
        refine Ops.quiet (Qt.pick_t rfl rfl g47) rfl ?_
        refine Ops.quiet (Qt.assign rfl) rfl ?_
        refine Ops.nil ?_
        refine H.then_normal ?_
        refine H.cond_true rfl (by rfl) ?_
        refine H.seq ?_
        refine H.region ?_
        refine Ops.quiet (Qt.build (tk rfl) (zk rfl) rfl (by rfl)) rfl ?_
        refine Ops.eff (Ef.store rfl rfl (tk rfl) rfl rfl (by repeat (first | exact ones_nil | refine ones_cons rfl ?_)) (by repeat (first | exact Upd.head | apply Upd.tail)) (by rfl)) rfl ?_
        rintro _ _ rfl
        refine Ops.quiet (Qt.assign rfl) rfl ?_
        refine Ops.nil ?_
        refine H.then_normal ?_
        refine H.ret ?_
        refine H.blk_ret ?_
        refine H.then_ret ?_
        refine (H.ends_to (cs' := lineR b (wt.drop (i + 2)) :: fr) rfl (.cons (.agg rfl (tk rfl) rfl (by repeat (first | exact List.Mem.head _ | apply List.Mem.tail)) (by rfl) (by rfl)) (.cons (.tmp rfl) .nil)) (fun w hw => ?_) ?_)
        · refine lineR_mk (A := A28) (n := ln - (i + 2)) (c := c28) (Own.perm (.swap _ _ _) (Own.sub ?_ hw)); repeat (first | exact List.Sublist.refl _ | exact List.nil_sublist _ | apply List.Sublist.cons_cons | apply List.Sublist.cons)
        · refine ⟨?_, rfl⟩
          have hi2 : (wt.take i).length = i := by rw [List.length_take]; omega
          have e1 : lineOf (wt.take i) most = ⟨3, []⟩ := by
            unfold lineOf oddB
            simp [hi2, h31, g47']
          rw [e1]; rfl
    · have g42' := g42
      try simp only [decide_eq_true_eq, decide_eq_false_iff_not, beq_iff_eq, beq_eq_false_iff_ne, bne_iff_ne, ne_eq, Bool.not_eq_true', Bool.not_eq_false', bne_eq_false_iff_eq, Bool.not_eq_eq_eq_not, Bool.not_true, Bool.not_false] at g42'
      refine Ops.guard_no rfl rfl rfl rfl g42 ?_
      refine Ops.guard_no rfl rfl rfl rfl g42 ?_
      refine Ops.quiet (Qt.pick_t rfl rfl g42) rfl ?_
      refine Ops.quiet (Qt.move rfl) rfl ?_
      refine Ops.guard rfl rfl rfl rfl (fun g47 => ?_) (fun g47 => ?_)
      · have g47' := g47
        try simp only [decide_eq_true_eq, decide_eq_false_iff_not, beq_iff_eq, beq_eq_false_iff_ne, bne_iff_ne, ne_eq, Bool.not_eq_true', Bool.not_eq_false', bne_eq_false_iff_eq, Bool.not_eq_eq_eq_not, Bool.not_true, Bool.not_false] at g47'
        exact Bool.noConfusion g47
      · have g47' := g47
        try simp only [decide_eq_true_eq, decide_eq_false_iff_not, beq_iff_eq, beq_eq_false_iff_ne, bne_iff_ne, ne_eq, Bool.not_eq_true', Bool.not_eq_false', bne_eq_false_iff_eq, Bool.not_eq_eq_eq_not, Bool.not_true, Bool.not_false] at g47'
        refine Ops.guard_no rfl rfl rfl rfl g47 ?_
        refine Ops.guard_no rfl rfl rfl rfl g47 ?_
        refine Ops.quiet (Qt.pick_t rfl rfl g47) rfl ?_
        refine Ops.quiet (Qt.assign rfl) rfl ?_
        refine Ops.nil ?_
        refine H.then_normal ?_
        refine H.cond_true rfl (by rfl) ?_
        refine H.seq ?_
        refine H.region ?_
        refine Ops.quiet (Qt.build (tk rfl) (zk rfl) rfl (by rfl)) rfl ?_
        refine Ops.eff (Ef.store rfl rfl (tk rfl) rfl rfl (by repeat (first | exact ones_nil | refine ones_cons rfl ?_)) (by repeat (first | exact Upd.head | apply Upd.tail)) (by rfl)) rfl ?_
        rintro _ _ rfl
        refine Ops.quiet (Qt.assign rfl) rfl ?_
        refine Ops.nil ?_
        refine H.then_normal ?_
        refine H.ret ?_
        refine H.blk_ret ?_
        refine H.then_ret ?_
        refine (H.ends_to (cs' := lineR b (wt.drop (i + 2)) :: fr) rfl (.cons (.agg rfl (tk rfl) rfl (by repeat (first | exact List.Mem.head _ | apply List.Mem.tail)) (by rfl) (by rfl)) (.cons (.tmp rfl) .nil)) (fun w hw => ?_) ?_)
        · refine lineR_mk (A := A28) (n := ln - (i + 2)) (c := c28) (Own.perm (.swap _ _ _) (Own.sub ?_ hw)); repeat (first | exact List.Sublist.refl _ | exact List.nil_sublist _ | apply List.Sublist.cons_cons | apply List.Sublist.cons)
        · refine ⟨?_, rfl⟩
          have hi2 : (wt.take i).length = i := by rw [List.length_take]; omega
          have e1 : lineOf (wt.take i) most = ⟨3, []⟩ := by
            unfold lineOf oddB
            simp [hi2, h31, g42']
          rw [e1]; rfl
end Go.Proofs.YtimldpbddkhedaaDoor
