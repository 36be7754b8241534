/- Messages as text: the program's env.Encode and the document's Text. -/
import Derived.Test.YtbglphpinhjfeaaGreatDoorMsg
import Derived.Test.YtbglphpinhjfeaaGreatDoorDcm
namespace Go.Proofs.YtbglphpinhjfeaaGreatDoor
open Go Go.RowKit
set_option maxRecDepth 100000
set_option linter.unusedVariables false
set_option linter.unusedSimpArgs false
attribute [local irreducible] Go.wpList Go.Code.wp Go.Exit.then Go.Exit.inBlock Go.Exit.noGoto Ends blk osl oblk LoopI Own Spec
def lineB (k v : Bs) : Bs := k ++ [32] ++ v ++ [10]
abbrev kId : Bs := [105, 100]
abbrev kGen : Bs := [103, 101, 110]
abbrev kBorn : Bs := [98, 111, 114, 110]
abbrev kTries : Bs := [116, 114, 105, 101, 115]
abbrev kDue : Bs := [100, 117, 101]
abbrev kFrom : Bs := [102, 114, 111, 109]
abbrev kRcpt : Bs := [114, 99, 112, 116]
abbrev kMarks : Bs := [109, 97, 114, 107, 115]
def headT (m : Mg) : Bs := lineB kId (Lib.itoa m.id) ++ lineB kGen (Lib.itoa m.gen) ++ lineB kBorn (Lib.itoa m.born) ++ lineB kTries (Lib.itoa m.tries) ++ lineB kDue (Lib.itoa m.due) ++ lineB kFrom m.frm
def rcT (l : List Bs) : Bs := (l.map (lineB kRcpt)).flatten
def mkT (l : List Int) : Bs := (l.map Lib.itoa).flatten
def bdT (l : List Bs) : Bs := (l.map fun s => s ++ [10]).flatten
def textM (m : Mg) : Bs := headT m ++ rcT m.rcpts ++ lineB kMarks (mkT m.marks) ++ [10] ++ bdT m.body
theorem lineB_len (k v : Bs) : (lineB k v).length = k.length + v.length + 2 := by simp [lineB]; omega
theorem flat_take_succ {α : Type} (f : α → Bs) (d : α) {l : List α} {i : Nat} (h : i < l.length) : ((l.take (i + 1)).map f).flatten = ((l.take i).map f).flatten ++ f (l.getD i d) := by
  rw [List.take_succ_eq_append_getElem h, List.map_append, List.flatten_append]
  simp [List.getD_eq_getElem?_getD, h]
theorem flat_len {α : Type} (f : α → Bs) {B : Nat} {l : List α} (h : ∀ x ∈ l, (f x).length ≤ B) : (l.map f).flatten.length ≤ B * l.length := by
  induction l with
  | nil => simp
  | cons x l ih =>
    have h1 := ih fun y hy => h y (.tail _ hy)
    have h2 := h x (.head _)
    simp only [List.map_cons, List.flatten_cons, List.length_append, List.length_cons, Nat.mul_succ]
    omega
theorem flat_take_le {α : Type} (f : α → Bs) (l : List α) (i : Nat) : ((l.take i).map f).flatten.length ≤ (l.map f).flatten.length := by
  have : (l.map f).flatten = ((l.take i).map f).flatten ++ ((l.drop i).map f).flatten := by
    rw [← List.flatten_append, ← List.map_append, List.take_append_drop]
  rw [this, List.length_append]; omega
structure TB (m : Mg) : Prop where
  head : (headT m).length ≤ 1000200
  rc : (rcT m.rcpts).length ≤ 20000200
  mt : (mkT m.marks).length ≤ 1000
  bd : (bdT m.body).length ≤ 65536
theorem bdT_len (l : List Bs) : (bdT l).length ≤ sizeL l := by
  induction l with
  | nil => simp [bdT, sizeL]
  | cons s l ih =>
    have h1 : bdT (s :: l) = s ++ [10] ++ bdT l := by simp [bdT]
    have h2 : sizeL (s :: l) = s.length + 2 + sizeL l := by simp [sizeL]
    rw [h1, h2]; simp; omega
theorem goodB_size {l : List Bs} (h : goodB l = true) : sizeL l ≤ 65536 := by
  simp only [goodB, Bool.and_eq_true, decide_eq_true_eq] at h
  exact h.2
theorem goodB_len {l : List Bs} (h : goodB l = true) : 2 * l.length ≤ 65536 := by
  have h1 := goodB_size h
  have : 2 * l.length ≤ sizeL l := by
    clear h h1
    induction l with
    | nil => simp [sizeL]
    | cons s l ih =>
      have h2 : sizeL (s :: l) = s.length + 2 + sizeL l := by simp [sizeL]
      rw [h2, List.length_cons]; omega
  omega
theorem GoodM.tb {m : Mg} (h : GoodM m) (hb : MB m) : TB m := by
  have hn : ∀ n ∈ m.nums, (Lib.itoa n).length ≤ 20 := fun n hm => by have := h.nums n hm; exact itoa_len (by omega) (by omega)
  refine ⟨?_, ?_, ?_, ?_⟩
  · have a1 := hn m.id (by simp [Mg.nums])
    have a2 := hn m.gen (by simp [Mg.nums])
    have a3 := hn m.born (by simp [Mg.nums])
    have a4 := hn m.tries (by simp [Mg.nums])
    have a5 := hn m.due (by simp [Mg.nums])
    have a6 := hb.f
    simp only [headT, List.length_append, lineB_len, List.length_cons, List.length_nil]
    omega
  · have := flat_len (lineB kRcpt) (B := 1000006) (l := m.rcpts) (fun s hs => by have := hb.r s hs; rw [lineB_len]; simp only [List.length_cons, List.length_nil]; omega)
    have h1 := h.r1
    have : 1000006 * m.rcpts.length ≤ 1000006 * 20 := Nat.mul_le_mul_left _ h1
    unfold rcT
    omega
  · have := flat_len Lib.itoa (B := 20) (l := m.marks) (fun n hm => by have := h.mks n hm; exact itoa_len (by omega) (by omega))
    have h1 := h.m1
    unfold mkT
    omega
  · exact Nat.le_trans (bdT_len _) (goodB_size h.bd)
theorem spec_eline (w0 : World) (b : Nat) (l k v : Bs) (fr : List SProp) (hk : k.length ≤ 100) (hl : l.length + v.length ≤ 100000000) :
    Spec Tryz.prog w0 28 [str k, str v, ptr b] (bld b l :: fr) (fun u cs' => u = unit ∧ cs' = bld b (l ++ lineB k v) :: fr) := by
  refine Spec.of_body Tryz.func28 rfl Tryz.ntmps28 rfl ?_
  refine H.region ?_
  refine Ops.quiet (Qt.move rfl) rfl ?_
  refine Ops.quiet (Qt.cat rfl rfl (by (try simp only [List.length_append, List.length_cons, List.length_nil]); omega)) rfl ?_
  refine Ops.quiet (Qt.move rfl) rfl ?_
  refine Ops.quiet (Qt.cat rfl rfl (by (try simp only [List.length_append, List.length_cons, List.length_nil]); omega)) rfl ?_
  refine Ops.quiet (Qt.cat rfl rfl (by (try simp only [List.length_append, List.length_cons, List.length_nil]); omega)) rfl ?_
  refine Ops.eff (Ef.call (fok fab_all rfl Tryz.func29 rfl) rfl (spec_bws w0 b l _ fr (by simp only [List.length_append, List.length_cons, List.length_nil]; omega))) rfl ?_
  rintro _ c0 ⟨rfl, h0⟩; subst c0
  refine Ops.nil ?_
  refine (H.ends_n rfl (ResAll.nil) ?_)
  exact ⟨rfl, rfl⟩
theorem spec_eencode (w0 : World) (hG : Gp w0) (m : Mg) (a : Ma) (hb : MB m) (hg : GoodM m) (cs : List SProp) (hm : MR w0 cs m a) :
    Spec Tryz.prog w0 16 [m.v a] cs (fun v cs' => ∃ A c, v = .tuple #[.slice A (textM m).length c, num 0] ∧ cs' = osl 5 A (textM m).length c ((textM m).map u8v) :: cs) := by
  have hq := spec_egood w0 hG.gl m a hb
  have htb := hg.tb hb
  obtain ⟨t1, t2, t3, t4⟩ := htb
  rw [goodM_iff.2 hg] at hq
  obtain ⟨hr, hk, hd⟩ := hm
  refine Spec.of_body Tryz.func16 rfl Tryz.ntmps16 rfl ?_
  refine H.fact (fun w hw => (hr w hw).facts) fun ⟨rl1, rl2, rl3, rl4⟩ => ?_
  refine H.fact (fun w hw => (hk w hw).facts) fun ⟨ml1, ml2, ml3, ml4⟩ => ?_
  refine H.fact (fun w hw => (hd w hw).facts) fun ⟨bl1, bl2, bl3, bl4⟩ => ?_
  simp only [List.length_map] at rl1 ml1 bl1
  refine H.seq ?_
  refine H.region ?_
  refine Ops.eff (Ef.box rfl rfl) rfl ?_
  rintro _ _ ⟨b1, rfl, rfl⟩
  refine Ops.quiet (Qt.assign rfl) rfl ?_
  refine Ops.quiet (Qt.assign rfl) rfl ?_
  refine Ops.nil ?_
  refine H.then_normal ?_
  refine H.seq ?_
  refine H.seq ?_
  refine H.region ?_
  refine Ops.quiet (Qt.load_agg rfl (tk rfl) rfl (by repeat (first | exact List.Mem.head _ | apply List.Mem.tail)) (by rfl) (by rfl)) rfl ?_
  refine Ops.eff (Ef.call (fok fab_all rfl Tryz.func27 rfl) rfl (hq _ (MR.tail ⟨hr, hk, hd⟩))) rfl ?_
  rintro _ c0 ⟨rfl, h0⟩; subst c0
  refine Ops.quiet (Qt.not rfl) rfl ?_
  refine Ops.nil ?_
  refine H.then_normal ?_
  refine H.cond_false rfl (by rfl) ?_
  refine H.skip ?_
  refine H.then_normal ?_
  refine H.seq ?_
  refine H.region ?_
  refine Ops.eff (Ef.alloc (zk rfl)) rfl ?_
  rintro _ _ ⟨b4, rfl, rfl⟩
  refine Ops.nil ?_
  refine H.then_normal ?_
  refine H.seq ?_
  refine H.region ?_
  refine Ops.quiet (Qt.makeFunc rfl rfl) rfl ?_
  refine Ops.quiet (Qt.assign rfl) rfl ?_
  refine Ops.nil ?_
  refine H.then_normal ?_
  refine H.seq ?_
  refine H.conv (fun w hw => bld_mk (l := []) (p := .pointer none) (A := none) (n := 0) (c := 0) (.inl rfl) ((Own.nil_osl 5 hw).perm (.swap _ _ _))) ?_
  have n1 := hg.nums m.id (by simp [Mg.nums])
  have n2 := hg.nums m.gen (by simp [Mg.nums])
  have n3 := hg.nums m.born (by simp [Mg.nums])
  have n4 := hg.nums m.tries (by simp [Mg.nums])
  have n5 := hg.nums m.due (by simp [Mg.nums])
  have a1 := itoa_len (n := m.id) (by omega) (by omega)
  have a2 := itoa_len (n := m.gen) (by omega) (by omega)
  have a3 := itoa_len (n := m.born) (by omega) (by omega)
  have a4 := itoa_len (n := m.tries) (by omega) (by omega)
  have a5 := itoa_len (n := m.due) (by omega) (by omega)
  have a6 := hb.f
  refine H.region ?_
  refine Ops.quiet (Qt.move rfl) rfl ?_
  refine Ops.quiet (Qt.fieldAddr rfl (tk rfl) rfl) rfl ?_
  refine Ops.quiet (Qt.load rfl (tk rfl) rfl (by repeat (first | exact List.Mem.head _ | apply List.Mem.tail)) (by rfl)) rfl ?_
  refine Ops.eff (Ef.call (fok fab_all rfl Tryz.func30 rfl) rfl (spec_itoa hG m.id (by omega) (by omega))) rfl ?_
  rintro _ c0 ⟨rfl, h0⟩; subst c0
  refine Ops.eff (Ef.callv (fok fab_all rfl Tryz.func28 rfl) rfl rfl (spec_eline w0 b4 _ kId (Lib.itoa m.id) _ (by decide) (by simp only [List.length_append, lineB_len, List.length_cons, List.length_nil]; omega))) rfl ?_
  rintro _ c0 ⟨rfl, h0⟩; subst c0
  refine Ops.nil ?_
  refine H.then_normal ?_
  refine H.seq ?_
  refine H.region ?_
  refine Ops.quiet (Qt.move rfl) rfl ?_
  refine Ops.quiet (Qt.fieldAddr rfl (tk rfl) rfl) rfl ?_
  refine Ops.quiet (Qt.load rfl (tk rfl) rfl (by repeat (first | exact List.Mem.head _ | apply List.Mem.tail)) (by rfl)) rfl ?_
  refine Ops.eff (Ef.call (fok fab_all rfl Tryz.func30 rfl) rfl (spec_itoa hG m.gen (by omega) (by omega))) rfl ?_
  rintro _ c0 ⟨rfl, h0⟩; subst c0
  refine Ops.eff (Ef.callv (fok fab_all rfl Tryz.func28 rfl) rfl rfl (spec_eline w0 b4 _ kGen (Lib.itoa m.gen) _ (by decide) (by simp only [List.length_append, lineB_len, List.length_cons, List.length_nil]; omega))) rfl ?_
  rintro _ c0 ⟨rfl, h0⟩; subst c0
  refine Ops.nil ?_
  refine H.then_normal ?_
  refine H.seq ?_
  refine H.region ?_
  refine Ops.quiet (Qt.move rfl) rfl ?_
  refine Ops.quiet (Qt.fieldAddr rfl (tk rfl) rfl) rfl ?_
  refine Ops.quiet (Qt.load rfl (tk rfl) rfl (by repeat (first | exact List.Mem.head _ | apply List.Mem.tail)) (by rfl)) rfl ?_
  refine Ops.eff (Ef.call (fok fab_all rfl Tryz.func30 rfl) rfl (spec_itoa hG m.born (by omega) (by omega))) rfl ?_
  rintro _ c0 ⟨rfl, h0⟩; subst c0
  refine Ops.eff (Ef.callv (fok fab_all rfl Tryz.func28 rfl) rfl rfl (spec_eline w0 b4 _ kBorn (Lib.itoa m.born) _ (by decide) (by simp only [List.length_append, lineB_len, List.length_cons, List.length_nil]; omega))) rfl ?_
  rintro _ c0 ⟨rfl, h0⟩; subst c0
  refine Ops.nil ?_
  refine H.then_normal ?_
  refine H.seq ?_
  refine H.region ?_
  refine Ops.quiet (Qt.move rfl) rfl ?_
  refine Ops.quiet (Qt.fieldAddr rfl (tk rfl) rfl) rfl ?_
  refine Ops.quiet (Qt.load rfl (tk rfl) rfl (by repeat (first | exact List.Mem.head _ | apply List.Mem.tail)) (by rfl)) rfl ?_
  refine Ops.eff (Ef.call (fok fab_all rfl Tryz.func30 rfl) rfl (spec_itoa hG m.tries (by omega) (by omega))) rfl ?_
  rintro _ c0 ⟨rfl, h0⟩; subst c0
  refine Ops.eff (Ef.callv (fok fab_all rfl Tryz.func28 rfl) rfl rfl (spec_eline w0 b4 _ kTries (Lib.itoa m.tries) _ (by decide) (by simp only [List.length_append, lineB_len, List.length_cons, List.length_nil]; omega))) rfl ?_
  rintro _ c0 ⟨rfl, h0⟩; subst c0
  refine Ops.nil ?_
  refine H.then_normal ?_
  refine H.seq ?_
  refine H.region ?_
  refine Ops.quiet (Qt.move rfl) rfl ?_
  refine Ops.quiet (Qt.fieldAddr rfl (tk rfl) rfl) rfl ?_
  refine Ops.quiet (Qt.load rfl (tk rfl) rfl (by repeat (first | exact List.Mem.head _ | apply List.Mem.tail)) (by rfl)) rfl ?_
  refine Ops.eff (Ef.call (fok fab_all rfl Tryz.func30 rfl) rfl (spec_itoa hG m.due (by omega) (by omega))) rfl ?_
  rintro _ c0 ⟨rfl, h0⟩; subst c0
  refine Ops.eff (Ef.callv (fok fab_all rfl Tryz.func28 rfl) rfl rfl (spec_eline w0 b4 _ kDue (Lib.itoa m.due) _ (by decide) (by simp only [List.length_append, lineB_len, List.length_cons, List.length_nil]; omega))) rfl ?_
  rintro _ c0 ⟨rfl, h0⟩; subst c0
  refine Ops.nil ?_
  refine H.then_normal ?_
  refine H.seq ?_
  refine H.region ?_
  refine Ops.quiet (Qt.move rfl) rfl ?_
  refine Ops.quiet (Qt.fieldAddr rfl (tk rfl) rfl) rfl ?_
  refine Ops.quiet (Qt.load rfl (tk rfl) rfl (by repeat (first | exact List.Mem.head _ | apply List.Mem.tail)) (by rfl)) rfl ?_
  refine Ops.eff (Ef.callv (fok fab_all rfl Tryz.func28 rfl) rfl rfl (spec_eline w0 b4 _ kFrom m.frm _ (by decide) (by simp only [List.length_append, lineB_len, List.length_cons, List.length_nil]; omega))) rfl ?_
  rintro _ c0 ⟨rfl, h0⟩; subst c0
  refine Ops.nil ?_
  refine H.then_normal ?_
  refine H.seq ?_
  refine H.seq ?_
  have e0 : ((((([] ++ lineB kId (Lib.itoa m.id)) ++ lineB kGen (Lib.itoa m.gen)) ++ lineB kBorn (Lib.itoa m.born)) ++ lineB kTries (Lib.itoa m.tries)) ++ lineB kDue (Lib.itoa m.due)) ++ lineB kFrom m.frm = headT m := rfl
  rw [e0]
  clear a1 a2 a3 a4 a5 n1 n2 n3 n4 n5 e0
  refine H.region ?_
  refine Ops.quiet (Qt.fieldAddr rfl (tk rfl) rfl) rfl ?_
  refine Ops.quiet (Qt.load rfl (tk rfl) rfl (by repeat (first | exact List.Mem.head _ | apply List.Mem.tail)) (by rfl)) rfl ?_
  refine Ops.quiet (Qt.len_sl (ats := #[]) rfl (tk rfl)) rfl ?_
  refine Ops.quiet (Qt.move rfl) rfl ?_
  refine Ops.nil ?_
  refine H.then_normal ?_
  refine H.block ?_
  refine H.loop (X := Nat) (fun i => [(1, ptr b1), (4, ptr b4), (5, .func (.func 28) #[] #[ptr b4]), (47, a.r.v), (48, num a.r.n), (49, num i)]) (fun i => bld b4 (headT m ++ rcT (m.rcpts.take i)) :: blk b1 (m.cells a) 25 :: cs) (fun i => i ≤ a.r.n) (fun i => a.r.n - i) 0 (Nat.zero_le _) (by repeat (first | exact trivial | refine ⟨rfl, ?_⟩)) (fun w hw => by have e : headT m ++ rcT (m.rcpts.take 0) = headT m := List.append_nil _; rw [e]; exact hw) ?_
  intro i hi
  have q1 : (rcT (m.rcpts.take i)).length ≤ (rcT m.rcpts).length := flat_take_le _ _ _
  refine H.seq ?_
  refine H.region ?_
  refine Ops.quiet (Qt.lss rfl rfl) rfl ?_
  refine Ops.nil ?_
  refine H.then_normal ?_
  refine H.seq ?_
  refine H.cond rfl (fun h50 => ?_) (fun h50 => ?_)
  · try simp only [decide_eq_true_eq, decide_eq_false_iff_not, beq_iff_eq, beq_eq_false_iff_ne, bne_iff_ne, ne_eq, Bool.not_eq_true', Bool.not_eq_false', bne_eq_false_iff_eq, Bool.not_eq_eq_eq_not, Bool.not_true, Bool.not_false] at h50
    refine H.skip ?_
    refine H.then_normal ?_
    refine H.seq ?_
    refine H.block ?_
    refine H.seq ?_
    have hi2 : i < m.rcpts.length := by omega
    have hsl := hb.r _ (getD_mem [] hi2)
    have hsl' : (m.rcpts.getD (i : Int).toNat []).length ≤ 1000000 := hsl
    refine H.region ?_
    refine Ops.quiet (Qt.indexAddr rfl rfl (tk rfl) (tk rfl) rfl (by repeat (first | assumption | exact Reads.of_head | apply Reads.tail)) (by omega) (by omega)) rfl ?_
    refine Ops.quiet (Qt.load_map ([] : List UInt8) rfl (tk rfl) rfl (by repeat (first | assumption | exact Reads.of_head | apply Reads.tail)) (by omega)) rfl ?_
    refine Ops.quiet (Qt.assign rfl) rfl ?_
    refine Ops.nil ?_
    refine H.then_normal ?_
    refine H.region ?_
    refine Ops.quiet (Qt.move rfl) rfl ?_
    refine Ops.quiet (Qt.move rfl) rfl ?_
    refine Ops.eff (Ef.callv (fok fab_all rfl Tryz.func28 rfl) rfl rfl (spec_eline w0 b4 _ kRcpt (m.rcpts.getD (i : Int).toNat []) _ (by decide) (by simp only [List.length_append]; omega))) rfl ?_
    rintro _ c0 ⟨rfl, h0⟩; subst c0
    refine Ops.nil ?_
    refine H.blk_normal ?_
    refine H.then_normal ?_
    refine H.region ?_
    refine Ops.quiet (Qt.addk rfl rfl (by first | exact IntWalk.i64_in _ (by omega) | exact IntWalk.u8_in _ (by omega) | exact IntWalk.u64_in _ (by omega) | exact IntWalk.u32_in _ (by omega) | exact IntWalk.u16_in _ (by omega))) rfl ?_
    refine Ops.quiet (Qt.move rfl) rfl ?_
    refine Ops.nil ?_
    refine H.then_normal ?_
    refine H.round (i + 1) (by omega) (by omega) (by repeat (first | exact trivial | refine ⟨rfl, ?_⟩)) (fun w hw => ?_)
    have e : headT m ++ rcT (m.rcpts.take (i + 1)) = (headT m ++ rcT (m.rcpts.take i)) ++ lineB kRcpt (m.rcpts.getD i []) := by rw [rcT, flat_take_succ _ [] hi2, ← List.append_assoc]; rfl
    rw [e]
    exact hw
  · try simp only [decide_eq_true_eq, decide_eq_false_iff_not, beq_iff_eq, beq_eq_false_iff_ne, bne_iff_ne, ne_eq, Bool.not_eq_true', Bool.not_eq_false', bne_eq_false_iff_eq, Bool.not_eq_eq_eq_not, Bool.not_true, Bool.not_false] at h50
    refine H.exit ?_
    refine H.then_exit ?_
    refine H.then_exit ?_
    refine H.blk_hit ?_
    refine H.then_normal ?_
    refine H.seq ?_
    have e1 : m.rcpts.take i = m.rcpts := List.take_of_length_le (by omega)
    rw [e1]
    refine H.region ?_
    refine Ops.quiet (Qt.assign rfl) rfl ?_
    refine Ops.nil ?_
    refine H.then_normal ?_
    refine H.seq ?_
    refine H.seq ?_
    refine H.region ?_
    refine Ops.quiet (Qt.fieldAddr rfl (tk rfl) rfl) rfl ?_
    refine Ops.quiet (Qt.load rfl (tk rfl) rfl (by repeat (first | exact List.Mem.head _ | apply List.Mem.tail)) (by rfl)) rfl ?_
    refine Ops.quiet (Qt.len_sl (ats := #[]) rfl (tk rfl)) rfl ?_
    refine Ops.quiet (Qt.move rfl) rfl ?_
    refine Ops.nil ?_
    refine H.then_normal ?_
    refine H.block ?_
    refine H.loop (X := Nat) (fun i => [(1, ptr b1), (4, ptr b4), (5, .func (.func 28) #[] #[ptr b4]), (8, str (mkT (m.marks.take i))), (58, a.m.v), (59, num a.m.n), (60, num i)]) (fun i => bld b4 (headT m ++ rcT m.rcpts) :: blk b1 (m.cells a) 25 :: cs) (fun i => i ≤ a.m.n) (fun i => a.m.n - i) 0 (Nat.zero_le _) (by repeat (first | exact trivial | refine ⟨rfl, ?_⟩)) (fun w hw => hw) ?_
    intro j hj
    have q2 : (mkT (m.marks.take j)).length ≤ (mkT m.marks).length := flat_take_le _ _ _
    refine H.seq ?_
    refine H.region ?_
    refine Ops.quiet (Qt.lss rfl rfl) rfl ?_
    refine Ops.nil ?_
    refine H.then_normal ?_
    refine H.seq ?_
    refine H.cond rfl (fun h61 => ?_) (fun h61 => ?_)
    · try simp only [decide_eq_true_eq, decide_eq_false_iff_not, beq_iff_eq, beq_eq_false_iff_ne, bne_iff_ne, ne_eq, Bool.not_eq_true', Bool.not_eq_false', bne_eq_false_iff_eq, Bool.not_eq_eq_eq_not, Bool.not_true, Bool.not_false] at h61
      refine H.skip ?_
      refine H.then_normal ?_
      refine H.seq ?_
      refine H.block ?_
      refine H.seq ?_
      have hj2 : j < m.marks.length := by omega
      have hjm := hg.mks _ (getD_mem 0 hj2)
      have hjm' : 0 ≤ m.marks.getD (j : Int).toNat 0 ∧ m.marks.getD (j : Int).toNat 0 ≤ 2 := hjm
      have hjl := itoa_len (n := m.marks.getD (j : Int).toNat 0) (by omega) (by omega)
      refine H.region ?_
      refine Ops.quiet (Qt.indexAddr rfl rfl (tk rfl) (tk rfl) rfl (by repeat (first | assumption | exact Reads.of_head | apply Reads.tail)) (by omega) (by omega)) rfl ?_
      refine Ops.quiet (Qt.load_map (0 : Int) rfl (tk rfl) rfl (by repeat (first | assumption | exact Reads.of_head | apply Reads.tail)) (by omega)) rfl ?_
      refine Ops.quiet (Qt.assign rfl) rfl ?_
      refine Ops.nil ?_
      refine H.then_normal ?_
      refine H.region ?_
      refine Ops.quiet (Qt.move rfl) rfl ?_
      refine Ops.quiet (Qt.move rfl) rfl ?_
      refine Ops.eff (Ef.call (fok fab_all rfl Tryz.func30 rfl) rfl (spec_itoa hG (m.marks.getD (j : Int).toNat 0) (by omega) (by omega))) rfl ?_
      rintro _ c0 ⟨rfl, h0⟩; subst c0
      refine Ops.quiet (Qt.cat rfl rfl (by omega)) rfl ?_
      refine Ops.quiet (Qt.assign rfl) rfl ?_
      refine Ops.nil ?_
      refine H.blk_normal ?_
      refine H.then_normal ?_
      refine H.region ?_
      refine Ops.quiet (Qt.addk rfl rfl (by first | exact IntWalk.i64_in _ (by omega) | exact IntWalk.u8_in _ (by omega) | exact IntWalk.u64_in _ (by omega) | exact IntWalk.u32_in _ (by omega) | exact IntWalk.u16_in _ (by omega))) rfl ?_
      refine Ops.quiet (Qt.move rfl) rfl ?_
      refine Ops.nil ?_
      refine H.then_normal ?_
      have e : mkT (m.marks.take (j + 1)) = mkT (m.marks.take j) ++ Lib.itoa (m.marks.getD j 0) := by rw [mkT, flat_take_succ _ 0 hj2]; rfl
      refine H.round (j + 1) (by omega) (by omega) (by rw [e]; repeat (first | exact trivial | refine ⟨rfl, ?_⟩)) (fun w hw => hw)
    · try simp only [decide_eq_true_eq, decide_eq_false_iff_not, beq_iff_eq, beq_eq_false_iff_ne, bne_iff_ne, ne_eq, Bool.not_eq_true', Bool.not_eq_false', bne_eq_false_iff_eq, Bool.not_eq_eq_eq_not, Bool.not_true, Bool.not_false] at h61
      refine H.exit ?_
      refine H.then_exit ?_
      refine H.then_exit ?_
      refine H.blk_hit ?_
      refine H.then_normal ?_
      refine H.seq ?_
      have e2 : m.marks.take j = m.marks := List.take_of_length_le (by omega)
      rw [e2]
      have q1' : (rcT m.rcpts).length ≤ 20000200 := t2
      refine H.region ?_
      refine Ops.quiet (Qt.move rfl) rfl ?_
      refine Ops.quiet (Qt.move rfl) rfl ?_
      refine Ops.eff (Ef.callv (fok fab_all rfl Tryz.func28 rfl) rfl rfl (spec_eline w0 b4 _ kMarks (mkT m.marks) _ (by decide) (by simp only [List.length_append]; omega))) rfl ?_
      rintro _ c0 ⟨rfl, h0⟩; subst c0
      refine Ops.nil ?_
      refine H.then_normal ?_
      refine H.seq ?_
      refine H.region ?_
      refine Ops.eff (Ef.call (fok fab_all rfl Tryz.func29 rfl) rfl (spec_bws w0 b4 _ [10] _ (by simp only [List.length_append, lineB_len, List.length_cons, List.length_nil]; omega))) rfl ?_
      rintro _ c0 ⟨rfl, h0⟩; subst c0
      refine Ops.nil ?_
      refine H.then_normal ?_
      refine H.seq ?_
      refine H.seq ?_
      refine H.region ?_
      refine Ops.quiet (Qt.fieldAddr rfl (tk rfl) rfl) rfl ?_
      refine Ops.quiet (Qt.load rfl (tk rfl) rfl (by repeat (first | exact List.Mem.head _ | apply List.Mem.tail)) (by rfl)) rfl ?_
      refine Ops.quiet (Qt.len_sl (ats := #[]) rfl (tk rfl)) rfl ?_
      refine Ops.quiet (Qt.move rfl) rfl ?_
      refine Ops.nil ?_
      refine H.then_normal ?_
      refine H.block ?_
      refine H.loop (X := Nat) (fun i => [(1, ptr b1), (4, ptr b4), (74, a.b.v), (75, num a.b.n), (76, num i)]) (fun i => bld b4 (headT m ++ rcT m.rcpts ++ lineB kMarks (mkT m.marks) ++ [10] ++ bdT (m.body.take i)) :: blk b1 (m.cells a) 25 :: cs) (fun i => i ≤ a.b.n) (fun i => a.b.n - i) 0 (Nat.zero_le _) (by repeat (first | exact trivial | refine ⟨rfl, ?_⟩)) (fun w hw => by have e : headT m ++ rcT m.rcpts ++ lineB kMarks (mkT m.marks) ++ [10] ++ bdT (m.body.take 0) = headT m ++ rcT m.rcpts ++ lineB kMarks (mkT m.marks) ++ [10] := List.append_nil _; rw [e]; exact hw) ?_
      intro k hk0
      have q3 : (bdT (m.body.take k)).length ≤ (bdT m.body).length := flat_take_le _ _ _
      refine H.seq ?_
      refine H.region ?_
      refine Ops.quiet (Qt.lss rfl rfl) rfl ?_
      refine Ops.nil ?_
      refine H.then_normal ?_
      refine H.seq ?_
      refine H.cond rfl (fun h77 => ?_) (fun h77 => ?_)
      · try simp only [decide_eq_true_eq, decide_eq_false_iff_not, beq_iff_eq, beq_eq_false_iff_ne, bne_iff_ne, ne_eq, Bool.not_eq_true', Bool.not_eq_false', bne_eq_false_iff_eq, Bool.not_eq_eq_eq_not, Bool.not_true, Bool.not_false] at h77
        refine H.skip ?_
        refine H.then_normal ?_
        refine H.seq ?_
        refine H.block ?_
        refine H.seq ?_
        have hk2 : k < m.body.length := by omega
        have hkl := hb.b _ (getD_mem [] hk2)
        have hkl' : (m.body.getD (k : Int).toNat []).length ≤ 1000000 := hkl
        refine H.region ?_
        refine Ops.quiet (Qt.indexAddr rfl rfl (tk rfl) (tk rfl) rfl (by repeat (first | assumption | exact Reads.of_head | apply Reads.tail)) (by omega) (by omega)) rfl ?_
        refine Ops.quiet (Qt.load_map ([] : List UInt8) rfl (tk rfl) rfl (by repeat (first | assumption | exact Reads.of_head | apply Reads.tail)) (by omega)) rfl ?_
        refine Ops.quiet (Qt.assign rfl) rfl ?_
        refine Ops.nil ?_
        refine H.then_normal ?_
        refine H.region ?_
        refine Ops.quiet (Qt.move rfl) rfl ?_
        refine Ops.quiet (Qt.cat rfl rfl (by (try simp only [List.length_append, List.length_cons, List.length_nil]); omega)) rfl ?_
        refine Ops.eff (Ef.call (fok fab_all rfl Tryz.func29 rfl) rfl (spec_bws w0 b4 _ _ _ (by simp only [List.length_append, lineB_len, List.length_cons, List.length_nil]; omega))) rfl ?_
        rintro _ c0 ⟨rfl, h0⟩; subst c0
        refine Ops.nil ?_
        refine H.blk_normal ?_
        refine H.then_normal ?_
        refine H.region ?_
        refine Ops.quiet (Qt.addk rfl rfl (by first | exact IntWalk.i64_in _ (by omega) | exact IntWalk.u8_in _ (by omega) | exact IntWalk.u64_in _ (by omega) | exact IntWalk.u32_in _ (by omega) | exact IntWalk.u16_in _ (by omega))) rfl ?_
        refine Ops.quiet (Qt.move rfl) rfl ?_
        refine Ops.nil ?_
        refine H.then_normal ?_
        refine H.round (k + 1) (by omega) (by omega) (by repeat (first | exact trivial | refine ⟨rfl, ?_⟩)) (fun w hw => ?_)
        have e : headT m ++ rcT m.rcpts ++ lineB kMarks (mkT m.marks) ++ [10] ++ bdT (m.body.take (k + 1)) = (headT m ++ rcT m.rcpts ++ lineB kMarks (mkT m.marks) ++ [10] ++ bdT (m.body.take k)) ++ (m.body.getD k [] ++ [10]) := by rw [bdT, flat_take_succ _ [] hk2, ← List.append_assoc]; rfl
        rw [e]
        exact hw
      · try simp only [decide_eq_true_eq, decide_eq_false_iff_not, beq_iff_eq, beq_eq_false_iff_ne, bne_iff_ne, ne_eq, Bool.not_eq_true', Bool.not_eq_false', bne_eq_false_iff_eq, Bool.not_eq_eq_eq_not, Bool.not_true, Bool.not_false] at h77
        refine H.exit ?_
        refine H.then_exit ?_
        refine H.then_exit ?_
        refine H.blk_hit ?_
        refine H.then_normal ?_
        refine H.seq ?_
        have e3 : m.body.take k = m.body := List.take_of_length_le (by omega)
        rw [e3]
        have e4 : headT m ++ rcT m.rcpts ++ lineB kMarks (mkT m.marks) ++ [10] ++ bdT m.body = textM m := rfl
        rw [e4]
        have htl : 0 < (textM m).length := by rw [← e4]; simp only [List.length_append, lineB_len, List.length_cons, List.length_nil]; omega
        have htm : (textM m).length ≤ 100000000 := by rw [← e4]; simp only [List.length_append, lineB_len, List.length_cons, List.length_nil]; omega
        refine H.region ?_
        refine Ops.eff (Ef.call (fok fab_all rfl Tryz.func31 rfl) rfl (spec_bstr w0 b4 _ _ htl)) rfl ?_
        rintro _ c0 ⟨rfl, h0⟩; subst c0
        refine Ops.eff (Ef.str_bytes rfl (tk rfl) (tk rfl) (tk rfl) (by omega)) rfl ?_
        rintro _ _ ⟨A85, c85, rfl, rfl⟩
        refine Ops.quiet (Qt.assign rfl) rfl ?_
        refine Ops.quiet (Qt.assign rfl) rfl ?_
        refine Ops.nil ?_
        refine H.then_normal ?_
        refine H.ret ?_
        refine (H.ends_to (cs' := osl 5 A85 (textM m).length c85 ((textM m).map u8v) :: cs) rfl (.cons (.tmp rfl) (.cons (.tmp rfl) .nil)) (fun w hw => ?_) ?_)
        · exact hw.sub (by repeat (first | exact List.Sublist.refl _ | exact List.nil_sublist _ | apply List.Sublist.cons_cons | apply List.Sublist.cons))
        · exact ⟨A85, c85, rfl, rfl⟩
/-- A message that is none. -/
theorem spec_eencode_bad (w0 : World) (hG : Gl w0) (m : Mg) (a : Ma) (hb : MB m) (hg : goodM m = false) (cs : List SProp) (hm : MR w0 cs m a) :
    Spec Tryz.prog w0 16 [m.v a] cs (fun v cs' => v = .tuple #[.slice none 0 0, num 2] ∧ cs' = cs) := by
  have hq := spec_egood w0 hG m a hb
  rw [hg] at hq
  refine Spec.of_body Tryz.func16 rfl Tryz.ntmps16 rfl ?_
  refine H.seq ?_
  refine H.region ?_
  refine Ops.eff (Ef.box rfl rfl) rfl ?_
  rintro _ _ ⟨b1, rfl, rfl⟩
  refine Ops.quiet (Qt.assign rfl) rfl ?_
  refine Ops.quiet (Qt.assign rfl) rfl ?_
  refine Ops.nil ?_
  refine H.then_normal ?_
  refine H.seq ?_
  refine H.seq ?_
  refine H.region ?_
  refine Ops.quiet (Qt.load_agg rfl (tk rfl) rfl (by repeat (first | exact List.Mem.head _ | apply List.Mem.tail)) (by rfl) (by rfl)) rfl ?_
  refine Ops.eff (Ef.call (fok fab_all rfl Tryz.func27 rfl) rfl (hq _ (MR.tail hm))) rfl ?_
  rintro _ c0 ⟨rfl, h0⟩; subst c0
  refine Ops.quiet (Qt.not rfl) rfl ?_
  refine Ops.nil ?_
  refine H.then_normal ?_
  refine H.cond_true rfl (by rfl) ?_
  refine H.seq ?_
  refine H.region ?_
  refine Ops.quiet (Qt.assign rfl) rfl ?_
  refine Ops.quiet (Qt.assign rfl) rfl ?_
  refine Ops.nil ?_
  refine H.then_normal ?_
  refine H.ret ?_
  refine H.then_ret ?_
  refine (H.ends_to (cs' := cs) rfl (.cons (.tmp rfl) (.cons (.tmp rfl) .nil)) (fun w hw => ?_) ?_)
  · exact hw.sub (by repeat (first | exact List.Sublist.refl _ | exact List.nil_sublist _ | apply List.Sublist.cons_cons | apply List.Sublist.cons))
  · exact ⟨rfl, rfl⟩
theorem spec_rtext (w0 : World) (m : Mg) (a : Ma) (hb : MB m) (hg : GoodM m) (cs : List SProp) (hm : MR w0 cs m a) :
    Spec Tryz.prog w0 13 [m.v a] cs (fun v cs' => v = str (textM m) ∧ cs' = cs) := by
  have htb := hg.tb hb
  obtain ⟨t1, t2, t3, t4⟩ := htb
  obtain ⟨hr, hk, hd⟩ := hm
  have n1 := hg.nums m.id (by simp [Mg.nums])
  have n2 := hg.nums m.gen (by simp [Mg.nums])
  have n3 := hg.nums m.born (by simp [Mg.nums])
  have n4 := hg.nums m.tries (by simp [Mg.nums])
  have n5 := hg.nums m.due (by simp [Mg.nums])
  have a1 := itoa_len (n := m.id) (by omega) (by omega)
  have a2 := itoa_len (n := m.gen) (by omega) (by omega)
  have a3 := itoa_len (n := m.born) (by omega) (by omega)
  have a4 := itoa_len (n := m.tries) (by omega) (by omega)
  have a5 := itoa_len (n := m.due) (by omega) (by omega)
  have a6 := hb.f
  refine Spec.of_body Tryz.func13 rfl Tryz.ntmps13 rfl ?_
  refine H.fact (fun w hw => (hr w hw).facts) fun ⟨rl1, rl2, rl3, rl4⟩ => ?_
  refine H.fact (fun w hw => (hk w hw).facts) fun ⟨ml1, ml2, ml3, ml4⟩ => ?_
  refine H.fact (fun w hw => (hd w hw).facts) fun ⟨bl1, bl2, bl3, bl4⟩ => ?_
  simp only [List.length_map] at rl1 ml1 bl1
  refine H.seq ?_
  refine H.region ?_
  refine Ops.eff (Ef.box rfl rfl) rfl ?_
  rintro _ _ ⟨b1, rfl, rfl⟩
  refine Ops.quiet (Qt.assign rfl) rfl ?_
  refine Ops.nil ?_
  refine H.then_normal ?_
  refine H.seq ?_
  refine H.drawn_all 27 mixed (by kernel_rfl) ?_
  refine Hd.quiet 0 (by kernel_rfl) rfl rfl (by kernel_rfl) rfl (Qt.fieldAddr rfl (tk rfl) rfl) ?_
  refine Hd.quiet 1 (by kernel_rfl) rfl rfl (by kernel_rfl) rfl (Qt.load rfl (tk rfl) rfl (by repeat (first | exact List.Mem.head _ | apply List.Mem.tail)) (by rfl)) ?_
  refine Hd.quiet 5 (by kernel_rfl) rfl rfl (by kernel_rfl) rfl (Qt.fieldAddr rfl (tk rfl) rfl) ?_
  refine Hd.quiet 6 (by kernel_rfl) rfl rfl (by kernel_rfl) rfl (Qt.load rfl (tk rfl) rfl (by repeat (first | exact List.Mem.head _ | apply List.Mem.tail)) (by rfl)) ?_
  refine Hd.quiet 10 (by kernel_rfl) rfl rfl (by kernel_rfl) rfl (Qt.fieldAddr rfl (tk rfl) rfl) ?_
  refine Hd.quiet 11 (by kernel_rfl) rfl rfl (by kernel_rfl) rfl (Qt.load rfl (tk rfl) rfl (by repeat (first | exact List.Mem.head _ | apply List.Mem.tail)) (by rfl)) ?_
  refine Hd.quiet 15 (by kernel_rfl) rfl rfl (by kernel_rfl) rfl (Qt.fieldAddr rfl (tk rfl) rfl) ?_
  refine Hd.quiet 16 (by kernel_rfl) rfl rfl (by kernel_rfl) rfl (Qt.load rfl (tk rfl) rfl (by repeat (first | exact List.Mem.head _ | apply List.Mem.tail)) (by rfl)) ?_
  refine Hd.quiet 20 (by kernel_rfl) rfl rfl (by kernel_rfl) rfl (Qt.fieldAddr rfl (tk rfl) rfl) ?_
  refine Hd.quiet 21 (by kernel_rfl) rfl rfl (by kernel_rfl) rfl (Qt.load rfl (tk rfl) rfl (by repeat (first | exact List.Mem.head _ | apply List.Mem.tail)) (by rfl)) ?_
  refine Hd.quiet 25 (by kernel_rfl) rfl rfl (by kernel_rfl) rfl (Qt.fieldAddr rfl (tk rfl) rfl) ?_
  refine Hd.quiet 26 (by kernel_rfl) rfl rfl (by kernel_rfl) rfl (Qt.load rfl (tk rfl) rfl (by repeat (first | exact List.Mem.head _ | apply List.Mem.tail)) (by rfl)) ?_
  refine Hd.eff 2 (by intro w hw; first | exact hw | exact Own.sub (by repeat (first | exact List.Sublist.refl _ | exact List.nil_sublist _ | apply List.Sublist.cons_cons | apply List.Sublist.cons)) hw) rfl rfl (by kernel_rfl) rfl (Ef.call (fok fab_all rfl Tryz.func24 rfl) rfl (spec_deci w0 m.id (by omega) (by omega) _)) ?_
  rintro _ c0 ⟨rfl, h0⟩; subst c0
  refine Hd.quiet 3 (by kernel_rfl) rfl rfl (by kernel_rfl) rfl (Qt.cat rfl rfl (by (try simp only [List.length_append, List.length_cons, List.length_nil]); omega)) ?_
  refine Hd.quiet 4 (by kernel_rfl) rfl rfl (by kernel_rfl) rfl (Qt.cat rfl rfl (by (try simp only [List.length_append, List.length_cons, List.length_nil]); omega)) ?_
  refine Hd.eff 7 (by intro w hw; first | exact hw | exact Own.sub (by repeat (first | exact List.Sublist.refl _ | exact List.nil_sublist _ | apply List.Sublist.cons_cons | apply List.Sublist.cons)) hw) rfl rfl (by kernel_rfl) rfl (Ef.call (fok fab_all rfl Tryz.func24 rfl) rfl (spec_deci w0 m.gen (by omega) (by omega) _)) ?_
  rintro _ c0 ⟨rfl, h0⟩; subst c0
  refine Hd.quiet 8 (by kernel_rfl) rfl rfl (by kernel_rfl) rfl (Qt.cat rfl rfl (by (try simp only [List.length_append, List.length_cons, List.length_nil]); omega)) ?_
  refine Hd.quiet 9 (by kernel_rfl) rfl rfl (by kernel_rfl) rfl (Qt.cat rfl rfl (by (try simp only [List.length_append, List.length_cons, List.length_nil]); omega)) ?_
  refine Hd.eff 12 (by intro w hw; first | exact hw | exact Own.sub (by repeat (first | exact List.Sublist.refl _ | exact List.nil_sublist _ | apply List.Sublist.cons_cons | apply List.Sublist.cons)) hw) rfl rfl (by kernel_rfl) rfl (Ef.call (fok fab_all rfl Tryz.func24 rfl) rfl (spec_deci w0 m.born (by omega) (by omega) _)) ?_
  rintro _ c0 ⟨rfl, h0⟩; subst c0
  refine Hd.quiet 13 (by kernel_rfl) rfl rfl (by kernel_rfl) rfl (Qt.cat rfl rfl (by (try simp only [List.length_append, List.length_cons, List.length_nil]); omega)) ?_
  refine Hd.quiet 14 (by kernel_rfl) rfl rfl (by kernel_rfl) rfl (Qt.cat rfl rfl (by (try simp only [List.length_append, List.length_cons, List.length_nil]); omega)) ?_
  refine Hd.eff 17 (by intro w hw; first | exact hw | exact Own.sub (by repeat (first | exact List.Sublist.refl _ | exact List.nil_sublist _ | apply List.Sublist.cons_cons | apply List.Sublist.cons)) hw) rfl rfl (by kernel_rfl) rfl (Ef.call (fok fab_all rfl Tryz.func24 rfl) rfl (spec_deci w0 m.tries (by omega) (by omega) _)) ?_
  rintro _ c0 ⟨rfl, h0⟩; subst c0
  refine Hd.quiet 18 (by kernel_rfl) rfl rfl (by kernel_rfl) rfl (Qt.cat rfl rfl (by (try simp only [List.length_append, List.length_cons, List.length_nil]); omega)) ?_
  refine Hd.quiet 19 (by kernel_rfl) rfl rfl (by kernel_rfl) rfl (Qt.cat rfl rfl (by (try simp only [List.length_append, List.length_cons, List.length_nil]); omega)) ?_
  refine Hd.eff 22 (by intro w hw; first | exact hw | exact Own.sub (by repeat (first | exact List.Sublist.refl _ | exact List.nil_sublist _ | apply List.Sublist.cons_cons | apply List.Sublist.cons)) hw) rfl rfl (by kernel_rfl) rfl (Ef.call (fok fab_all rfl Tryz.func24 rfl) rfl (spec_deci w0 m.due (by omega) (by omega) _)) ?_
  rintro _ c0 ⟨rfl, h0⟩; subst c0
  refine Hd.quiet 23 (by kernel_rfl) rfl rfl (by kernel_rfl) rfl (Qt.cat rfl rfl (by (try simp only [List.length_append, List.length_cons, List.length_nil]); omega)) ?_
  refine Hd.quiet 24 (by kernel_rfl) rfl rfl (by kernel_rfl) rfl (Qt.cat rfl rfl (by (try simp only [List.length_append, List.length_cons, List.length_nil]); omega)) ?_
  refine Hd.tail (by intro w hw; first | exact hw | exact Own.sub (by repeat (first | exact List.Sublist.refl _ | exact List.nil_sublist _ | apply List.Sublist.cons_cons | apply List.Sublist.cons)) hw) (by kernel_rfl) rfl ?_
  refine Ops.quiet (Qt.cat rfl rfl (by (try simp only [List.length_append, List.length_cons, List.length_nil]); omega)) rfl ?_
  refine Ops.quiet (Qt.cat rfl rfl (by (try simp only [List.length_append, List.length_cons, List.length_nil]); omega)) rfl ?_
  refine Ops.quiet (Qt.assign rfl) rfl ?_
  refine Ops.nil ?_
  refine H.then_normal ?_
  refine H.seq ?_
  refine H.seq ?_
  have e0 : (((((((((((([105, 100, 32] ++ Lib.itoa m.id) ++ [10, 103, 101, 110, 32]) ++ Lib.itoa m.gen) ++ [10, 98, 111, 114, 110, 32]) ++ Lib.itoa m.born) ++ [10, 116, 114, 105, 101, 115, 32]) ++ Lib.itoa m.tries) ++ [10, 100, 117, 101, 32]) ++ Lib.itoa m.due) ++ [10, 102, 114, 111, 109, 32]) ++ m.frm) ++ [10]) = headT m := by simp only [headT, lineB, List.append_assoc, List.cons_append, List.nil_append]
  refine H.env (ESub.ok (e' := [(1, ptr b1), (3, str (headT m))]) (by rw [← e0]; repeat (first | exact trivial | refine ⟨rfl, ?_⟩))) ?_
  clear a1 a2 a3 a4 a5 a6 n1 n2 n3 n4 n5 e0
  refine H.region ?_
  refine Ops.quiet (Qt.assign rfl) rfl ?_
  refine Ops.nil ?_
  refine H.then_normal ?_
  refine H.block ?_
  refine H.loop (X := Nat) (fun i => [(1, ptr b1), (3, str (headT m ++ rcT (m.rcpts.take i))), (4, num i)]) (fun i => blk b1 (m.cells a) 25 :: cs) (fun i => i ≤ a.r.n) (fun i => a.r.n - i) 0 (Nat.zero_le _) (by have e : headT m ++ rcT (m.rcpts.take 0) = headT m := List.append_nil _; rw [e]; repeat (first | exact trivial | refine ⟨rfl, ?_⟩)) (fun w hw => hw) ?_
  intro i hi
  have q1 : (rcT (m.rcpts.take i)).length ≤ (rcT m.rcpts).length := flat_take_le _ _ _
  refine H.seq ?_
  refine H.seq ?_
  refine H.region ?_
  refine Ops.quiet (Qt.move rfl) rfl ?_
  refine Ops.quiet (Qt.fieldAddr rfl (tk rfl) rfl) rfl ?_
  refine Ops.quiet (Qt.load rfl (tk rfl) rfl (by repeat (first | exact List.Mem.head _ | apply List.Mem.tail)) (by rfl)) rfl ?_
  refine Ops.quiet (Qt.len_sl (ats := #[]) rfl (tk rfl)) rfl ?_
  refine Ops.quiet (Qt.lss rfl rfl) rfl ?_
  refine Ops.nil ?_
  refine H.then_normal ?_
  refine H.cond rfl (fun h40 => ?_) (fun h40 => ?_)
  · try simp only [decide_eq_true_eq, decide_eq_false_iff_not, beq_iff_eq, beq_eq_false_iff_ne, bne_iff_ne, ne_eq, Bool.not_eq_true', Bool.not_eq_false', bne_eq_false_iff_eq, Bool.not_eq_eq_eq_not, Bool.not_true, Bool.not_false] at h40
    refine H.skip ?_
    refine H.then_normal ?_
    refine H.seq ?_
    refine H.block ?_
    have hi2 : i < m.rcpts.length := by omega
    have hsl := hb.r _ (getD_mem [] hi2)
    have hsl' : (m.rcpts.getD (i : Int).toNat []).length ≤ 1000000 := hsl
    refine H.region ?_
    refine Ops.quiet (Qt.move rfl) rfl ?_
    refine Ops.quiet (Qt.cat rfl rfl (by (try simp only [List.length_append, List.length_cons, List.length_nil]); omega)) rfl ?_
    refine Ops.quiet (Qt.fieldAddr rfl (tk rfl) rfl) rfl ?_
    refine Ops.quiet (Qt.load rfl (tk rfl) rfl (by repeat (first | exact List.Mem.head _ | apply List.Mem.tail)) (by rfl)) rfl ?_
    refine Ops.quiet (Qt.move rfl) rfl ?_
    refine Ops.quiet (Qt.indexAddr rfl rfl (tk rfl) (tk rfl) rfl (by repeat (first | assumption | exact Reads.of_head | apply Reads.tail)) (by omega) (by omega)) rfl ?_
    refine Ops.quiet (Qt.load_map ([] : List UInt8) rfl (tk rfl) rfl (by repeat (first | assumption | exact Reads.of_head | apply Reads.tail)) (by omega)) rfl ?_
    refine Ops.quiet (Qt.cat rfl rfl (by (try simp only [List.length_append, List.length_cons, List.length_nil]); omega)) rfl ?_
    refine Ops.quiet (Qt.cat rfl rfl (by (try simp only [List.length_append, List.length_cons, List.length_nil]); omega)) rfl ?_
    refine Ops.quiet (Qt.assign rfl) rfl ?_
    refine Ops.nil ?_
    refine H.blk_normal ?_
    refine H.then_normal ?_
    refine H.region ?_
    refine Ops.quiet (Qt.move rfl) rfl ?_
    refine Ops.quiet (Qt.addk rfl rfl (by first | exact IntWalk.i64_in _ (by omega) | exact IntWalk.u8_in _ (by omega) | exact IntWalk.u64_in _ (by omega) | exact IntWalk.u32_in _ (by omega) | exact IntWalk.u16_in _ (by omega))) rfl ?_
    refine Ops.quiet (Qt.assign rfl) rfl ?_
    refine Ops.nil ?_
    refine H.then_normal ?_
    have e : headT m ++ rcT (m.rcpts.take (i + 1)) = ((headT m ++ rcT (m.rcpts.take i) ++ [114, 99, 112, 116, 32]) ++ m.rcpts.getD i []) ++ [10] := by rw [rcT, flat_take_succ _ [] hi2]; simp only [lineB, rcT, List.append_assoc, List.cons_append, List.nil_append]
    refine H.round (i + 1) (by omega) (by omega) (by rw [e]; repeat (first | exact trivial | refine ⟨rfl, ?_⟩)) (fun w hw => hw)
  · try simp only [decide_eq_true_eq, decide_eq_false_iff_not, beq_iff_eq, beq_eq_false_iff_ne, bne_iff_ne, ne_eq, Bool.not_eq_true', Bool.not_eq_false', bne_eq_false_iff_eq, Bool.not_eq_eq_eq_not, Bool.not_true, Bool.not_false] at h40
    refine H.exit ?_
    refine H.then_exit ?_
    refine H.then_exit ?_
    refine H.blk_hit ?_
    refine H.then_normal ?_
    refine H.seq ?_
    have e1 : m.rcpts.take i = m.rcpts := List.take_of_length_le (by omega)
    rw [e1]
    clear q1
    refine H.region ?_
    refine Ops.quiet (Qt.move rfl) rfl ?_
    refine Ops.quiet (Qt.cat rfl rfl (by (try simp only [List.length_append, List.length_cons, List.length_nil]); omega)) rfl ?_
    refine Ops.quiet (Qt.assign rfl) rfl ?_
    refine Ops.nil ?_
    refine H.then_normal ?_
    refine H.seq ?_
    refine H.seq ?_
    refine H.region ?_
    refine Ops.quiet (Qt.assign rfl) rfl ?_
    refine Ops.nil ?_
    refine H.then_normal ?_
    refine H.block ?_
    refine H.loop (X := Nat) (fun i => [(1, ptr b1), (3, str ((headT m ++ rcT m.rcpts ++ [109, 97, 114, 107, 115, 32]) ++ mkT (m.marks.take i))), (5, num i)]) (fun i => blk b1 (m.cells a) 25 :: cs) (fun i => i ≤ a.m.n) (fun i => a.m.n - i) 0 (Nat.zero_le _) (by have e : (headT m ++ rcT m.rcpts ++ [109, 97, 114, 107, 115, 32]) ++ mkT (m.marks.take 0) = headT m ++ rcT m.rcpts ++ [109, 97, 114, 107, 115, 32] := List.append_nil _; rw [e]; repeat (first | exact trivial | refine ⟨rfl, ?_⟩)) (fun w hw => hw) ?_
    intro j hj
    have q2 : (mkT (m.marks.take j)).length ≤ (mkT m.marks).length := flat_take_le _ _ _
    have q3 : ((headT m ++ rcT m.rcpts ++ [109, 97, 114, 107, 115, 32]) ++ mkT (m.marks.take j)).length ≤ 30000000 := by simp only [List.length_append, List.length_cons, List.length_nil]; omega
    refine H.seq ?_
    refine H.seq ?_
    refine H.region ?_
    refine Ops.quiet (Qt.move rfl) rfl ?_
    refine Ops.quiet (Qt.fieldAddr rfl (tk rfl) rfl) rfl ?_
    refine Ops.quiet (Qt.load rfl (tk rfl) rfl (by repeat (first | exact List.Mem.head _ | apply List.Mem.tail)) (by rfl)) rfl ?_
    refine Ops.quiet (Qt.len_sl (ats := #[]) rfl (tk rfl)) rfl ?_
    refine Ops.quiet (Qt.lss rfl rfl) rfl ?_
    refine Ops.nil ?_
    refine H.then_normal ?_
    refine H.cond rfl (fun h58 => ?_) (fun h58 => ?_)
    · try simp only [decide_eq_true_eq, decide_eq_false_iff_not, beq_iff_eq, beq_eq_false_iff_ne, bne_iff_ne, ne_eq, Bool.not_eq_true', Bool.not_eq_false', bne_eq_false_iff_eq, Bool.not_eq_eq_eq_not, Bool.not_true, Bool.not_false] at h58
      refine H.skip ?_
      refine H.then_normal ?_
      refine H.seq ?_
      refine H.block ?_
      have hj2 : j < m.marks.length := by omega
      have hjm := hg.mks _ (getD_mem 0 hj2)
      have hjm' : 0 ≤ m.marks.getD (j : Int).toNat 0 ∧ m.marks.getD (j : Int).toNat 0 ≤ 2 := hjm
      have hjl := itoa_len (n := m.marks.getD (j : Int).toNat 0) (by omega) (by omega)
      refine H.region ?_
      refine Ops.quiet (Qt.move rfl) rfl ?_
      refine Ops.quiet (Qt.fieldAddr rfl (tk rfl) rfl) rfl ?_
      refine Ops.quiet (Qt.load rfl (tk rfl) rfl (by repeat (first | exact List.Mem.head _ | apply List.Mem.tail)) (by rfl)) rfl ?_
      refine Ops.quiet (Qt.move rfl) rfl ?_
      refine Ops.quiet (Qt.indexAddr rfl rfl (tk rfl) (tk rfl) rfl (by repeat (first | assumption | exact Reads.of_head | apply Reads.tail)) (by omega) (by omega)) rfl ?_
      refine Ops.quiet (Qt.load_map (0 : Int) rfl (tk rfl) rfl (by repeat (first | assumption | exact Reads.of_head | apply Reads.tail)) (by omega)) rfl ?_
      refine Ops.eff (Ef.call (fok fab_all rfl Tryz.func24 rfl) rfl (spec_deci w0 (m.marks.getD (j : Int).toNat 0) (by omega) (by omega) _)) rfl ?_
      rintro _ c0 ⟨rfl, h0⟩; subst c0
      refine Ops.quiet (Qt.cat rfl rfl (by omega)) rfl ?_
      refine Ops.quiet (Qt.assign rfl) rfl ?_
      refine Ops.nil ?_
      refine H.blk_normal ?_
      refine H.then_normal ?_
      refine H.region ?_
      refine Ops.quiet (Qt.move rfl) rfl ?_
      refine Ops.quiet (Qt.addk rfl rfl (by first | exact IntWalk.i64_in _ (by omega) | exact IntWalk.u8_in _ (by omega) | exact IntWalk.u64_in _ (by omega) | exact IntWalk.u32_in _ (by omega) | exact IntWalk.u16_in _ (by omega))) rfl ?_
      refine Ops.quiet (Qt.assign rfl) rfl ?_
      refine Ops.nil ?_
      refine H.then_normal ?_
      have e : (headT m ++ rcT m.rcpts ++ [109, 97, 114, 107, 115, 32]) ++ mkT (m.marks.take (j + 1)) = ((headT m ++ rcT m.rcpts ++ [109, 97, 114, 107, 115, 32]) ++ mkT (m.marks.take j)) ++ Lib.itoa (m.marks.getD j 0) := by rw [mkT, flat_take_succ _ 0 hj2]; simp only [mkT, List.append_assoc]
      refine H.round (j + 1) (by omega) (by omega) (by rw [e]; repeat (first | exact trivial | refine ⟨rfl, ?_⟩)) (fun w hw => hw)
    · try simp only [decide_eq_true_eq, decide_eq_false_iff_not, beq_iff_eq, beq_eq_false_iff_ne, bne_iff_ne, ne_eq, Bool.not_eq_true', Bool.not_eq_false', bne_eq_false_iff_eq, Bool.not_eq_eq_eq_not, Bool.not_true, Bool.not_false] at h58
      refine H.exit ?_
      refine H.then_exit ?_
      refine H.then_exit ?_
      refine H.blk_hit ?_
      refine H.then_normal ?_
      refine H.seq ?_
      have e2 : m.marks.take j = m.marks := List.take_of_length_le (by omega)
      rw [e2] at q2 q3 ⊢
      refine H.region ?_
      refine Ops.quiet (Qt.move rfl) rfl ?_
      refine Ops.quiet (Qt.cat rfl rfl (by (try simp only [List.length_append, List.length_cons, List.length_nil]); omega)) rfl ?_
      refine Ops.quiet (Qt.assign rfl) rfl ?_
      refine Ops.nil ?_
      refine H.then_normal ?_
      refine H.seq ?_
      refine H.seq ?_
      have e3 : (headT m ++ rcT m.rcpts ++ [109, 97, 114, 107, 115, 32] ++ mkT m.marks) ++ [10, 10] = (headT m ++ rcT m.rcpts ++ lineB kMarks (mkT m.marks) ++ [10]) := by simp only [lineB, List.append_assoc, List.cons_append, List.nil_append]
      rw [e3]
      refine H.region ?_
      refine Ops.quiet (Qt.assign rfl) rfl ?_
      refine Ops.nil ?_
      refine H.then_normal ?_
      refine H.block ?_
      refine H.loop (X := Nat) (fun i => [(1, ptr b1), (3, str ((headT m ++ rcT m.rcpts ++ lineB kMarks (mkT m.marks) ++ [10]) ++ bdT (m.body.take i))), (6, num i)]) (fun i => blk b1 (m.cells a) 25 :: cs) (fun i => i ≤ a.b.n) (fun i => a.b.n - i) 0 (Nat.zero_le _) (by have e : (headT m ++ rcT m.rcpts ++ lineB kMarks (mkT m.marks) ++ [10]) ++ bdT (m.body.take 0) = (headT m ++ rcT m.rcpts ++ lineB kMarks (mkT m.marks) ++ [10]) := List.append_nil _; rw [e]; repeat (first | exact trivial | refine ⟨rfl, ?_⟩)) (fun w hw => hw) ?_
      intro k hk0
      have q4 : (bdT (m.body.take k)).length ≤ (bdT m.body).length := flat_take_le _ _ _
      have q5 : ((headT m ++ rcT m.rcpts ++ lineB kMarks (mkT m.marks) ++ [10]) ++ bdT (m.body.take k)).length ≤ 40000000 := by simp only [List.length_append, lineB_len, List.length_cons, List.length_nil]; omega
      refine H.seq ?_
      refine H.seq ?_
      refine H.region ?_
      refine Ops.quiet (Qt.move rfl) rfl ?_
      refine Ops.quiet (Qt.fieldAddr rfl (tk rfl) rfl) rfl ?_
      refine Ops.quiet (Qt.load rfl (tk rfl) rfl (by repeat (first | exact List.Mem.head _ | apply List.Mem.tail)) (by rfl)) rfl ?_
      refine Ops.quiet (Qt.len_sl (ats := #[]) rfl (tk rfl)) rfl ?_
      refine Ops.quiet (Qt.lss rfl rfl) rfl ?_
      refine Ops.nil ?_
      refine H.then_normal ?_
      refine H.cond rfl (fun h75 => ?_) (fun h75 => ?_)
      · try simp only [decide_eq_true_eq, decide_eq_false_iff_not, beq_iff_eq, beq_eq_false_iff_ne, bne_iff_ne, ne_eq, Bool.not_eq_true', Bool.not_eq_false', bne_eq_false_iff_eq, Bool.not_eq_eq_eq_not, Bool.not_true, Bool.not_false] at h75
        refine H.skip ?_
        refine H.then_normal ?_
        refine H.seq ?_
        refine H.block ?_
        have hk2 : k < m.body.length := by omega
        have hkl := hb.b _ (getD_mem [] hk2)
        have hkl' : (m.body.getD (k : Int).toNat []).length ≤ 1000000 := hkl
        refine H.region ?_
        refine Ops.quiet (Qt.move rfl) rfl ?_
        refine Ops.quiet (Qt.fieldAddr rfl (tk rfl) rfl) rfl ?_
        refine Ops.quiet (Qt.load rfl (tk rfl) rfl (by repeat (first | exact List.Mem.head _ | apply List.Mem.tail)) (by rfl)) rfl ?_
        refine Ops.quiet (Qt.move rfl) rfl ?_
        refine Ops.quiet (Qt.indexAddr rfl rfl (tk rfl) (tk rfl) rfl (by repeat (first | assumption | exact Reads.of_head | apply Reads.tail)) (by omega) (by omega)) rfl ?_
        refine Ops.quiet (Qt.load_map ([] : List UInt8) rfl (tk rfl) rfl (by repeat (first | assumption | exact Reads.of_head | apply Reads.tail)) (by omega)) rfl ?_
        refine Ops.quiet (Qt.cat rfl rfl (by omega)) rfl ?_
        refine Ops.quiet (Qt.cat rfl rfl (by rw [List.length_append]; simp only [List.length_cons, List.length_nil]; omega)) rfl ?_
        refine Ops.quiet (Qt.assign rfl) rfl ?_
        refine Ops.nil ?_
        refine H.blk_normal ?_
        refine H.then_normal ?_
        refine H.region ?_
        refine Ops.quiet (Qt.move rfl) rfl ?_
        refine Ops.quiet (Qt.addk rfl rfl (by first | exact IntWalk.i64_in _ (by omega) | exact IntWalk.u8_in _ (by omega) | exact IntWalk.u64_in _ (by omega) | exact IntWalk.u32_in _ (by omega) | exact IntWalk.u16_in _ (by omega))) rfl ?_
        refine Ops.quiet (Qt.assign rfl) rfl ?_
        refine Ops.nil ?_
        refine H.then_normal ?_
        have e : (headT m ++ rcT m.rcpts ++ lineB kMarks (mkT m.marks) ++ [10]) ++ bdT (m.body.take (k + 1)) = (((headT m ++ rcT m.rcpts ++ lineB kMarks (mkT m.marks) ++ [10]) ++ bdT (m.body.take k)) ++ m.body.getD k []) ++ [10] := by rw [bdT, flat_take_succ _ [] hk2]; simp only [bdT, List.append_assoc]
        refine H.round (k + 1) (by omega) (by omega) (by rw [e]; repeat (first | exact trivial | refine ⟨rfl, ?_⟩)) (fun w hw => hw)
      · try simp only [decide_eq_true_eq, decide_eq_false_iff_not, beq_iff_eq, beq_eq_false_iff_ne, bne_iff_ne, ne_eq, Bool.not_eq_true', Bool.not_eq_false', bne_eq_false_iff_eq, Bool.not_eq_eq_eq_not, Bool.not_true, Bool.not_false] at h75
        refine H.exit ?_
        refine H.then_exit ?_
        refine H.then_exit ?_
        refine H.blk_hit ?_
        refine H.then_normal ?_
        refine H.seq ?_
        refine H.region ?_
        refine Ops.quiet (Qt.move rfl) rfl ?_
        refine Ops.quiet (Qt.assign rfl) rfl ?_
        refine Ops.nil ?_
        refine H.then_normal ?_
        refine H.ret ?_
        have e3 : m.body.take k = m.body := List.take_of_length_le (by omega)
        refine (H.ends_to (cs' := cs) rfl (.cons (.tmp rfl) .nil) (fun w hw => ?_) ?_)
        · exact hw.sub (by repeat (first | exact List.Sublist.refl _ | exact List.nil_sublist _ | apply List.Sublist.cons_cons | apply List.Sublist.cons))
        · exact ⟨by rw [e3]; rfl, rfl⟩
end Go.Proofs.YtbglphpinhjfeaaGreatDoor
