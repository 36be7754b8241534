/- Messages as bytes: the program's bin.Encode and the document's Bytes. -/
import Derived.Test.YtbglphpinhjfeaaGreatDoorEnc
namespace Go.Proofs.YtbglphpinhjfeaaGreatDoor
open Go Go.RowKit
set_option maxRecDepth 100000
set_option linter.unusedVariables false
set_option linter.unusedSimpArgs false
attribute [local irreducible] Go.wpList Go.Code.wp Go.Exit.then Go.Exit.inBlock Go.Exit.noGoto Ends blk osl oblk LoopI Own Spec
def byteN (n : Nat) : UInt8 := UInt8.ofNat (n % 256)
/-- A number in so many bytes, the greatest first. -/
def numB : Nat → Nat → Bs
  | 0, _ => []
  | k + 1, n => byteN (n / 256 ^ k) :: numB k n
theorem numB_len : ∀ k n, (numB k n).length = k
  | 0, _ => rfl
  | k + 1, n => by simp [numB, numB_len k n]
theorem numB_snoc : ∀ k n, numB (k + 1) n = numB k (n / 256) ++ [byteN n]
  | 0, n => by simp [numB]
  | k + 1, n => by
    have ih := numB_snoc k n
    rw [numB, ih]
    conv => rhs; rw [numB]
    rw [Nat.div_div_eq_div_mul, Nat.pow_succ, Nat.mul_comm]
    rfl
def txtB (s : Bs) : Bs := numB 2 s.length ++ s
def rcB (l : List Bs) : Bs := (l.map txtB).flatten
def mkB (l : List Int) : Bs := (l.map fun n => [byteN n.toNat]).flatten
def numsB (l : List Int) : Bs := (l.map fun n => numB 6 n.toNat).flatten
def bytesM (m : Mg) : Bs := [2] ++ numsB m.nums ++ txtB m.frm ++ numB 2 m.rcpts.length ++ rcB m.rcpts ++ numB 2 m.marks.length ++ mkB m.marks ++ numB 4 m.body.length ++ rcB m.body
theorem byteN_u8 {x : Int} (h : 0 ≤ x) : Value.int .u8 (IntKind.u8.wrap x) = u8v (byteN x.toNat) := by
  have h1 : IntKind.u8.wrap x = x % 256 := by rw [IntKind.wrap_u8]
  rw [h1, u8_of (by omega) (by omega), byteN]
  congr 2
  congr 1
  omega
theorem shr_i {n : Int} {k : Nat} (h0 : 0 ≤ n) (hk : k ≤ 7) : n.fdiv (2 ^ (min (8 * (k : Int)).toNat IntKind.i64.bits)) = ((n.toNat / 256 ^ k : Nat) : Int) := by
  have h1 : (8 * (k : Int)).toNat = 8 * k := by omega
  have h2 : min (8 * k) IntKind.i64.bits = 8 * k := by show min (8 * k) 64 = _; omega
  rw [h1, h2, Int.fdiv_eq_ediv_of_nonneg _ (by exact Int.le_of_lt (Int.pow_pos (by decide)))]
  have h3 : (256 : Nat) ^ k = 2 ^ (8 * k) := by rw [Nat.pow_mul]
  rw [h3]
  obtain ⟨m, rfl⟩ : ∃ m : Nat, n = m := ⟨n.toNat, by omega⟩
  simp
/-! ### The program's writer -/
def wri (b : Nat) (l : Bs) : SProp := exS fun A => exS fun n => exS fun c => bun [blk b [.slice A n c] 61, osl 5 A n c (l.map u8v)]
theorem wri_mk {b n c : Nat} {l : Bs} {A : Option Addr} {fr : List SProp} {w0 w : World} (h : Own w0 w (blk b [.slice A n c] 61 :: osl 5 A n c (l.map u8v) :: fr)) : Own w0 w (wri b l :: fr) :=
  Own.ex_iff.2 ⟨A, Own.ex_iff.2 ⟨n, Own.ex_iff.2 ⟨c, Own.bun_iff.2 h⟩⟩⟩
theorem H.open_wri {N : Nat} {w0 : World} {e : Env} {J : Act → World → Prop} {b : Nat} {l : Bs} {fr : List SProp}
    (h : ∀ (A : Option Addr) (n c : Nat), (l.length = n ∧ n ≤ c ∧ c ≤ 9223372036854775807) → H N w0 e (blk b [.slice A n c] 61 :: osl 5 A n c (l.map u8v) :: fr) J) : H N w0 e (wri b l :: fr) J := by
  refine H.ex fun A => H.ex fun n => H.ex fun c => H.bun ?_
  simp only [List.cons_append, List.nil_append]
  refine H.fact (fun w hw => (Own.len (osl_reads (.tail _ (.head _))) hw)) fun tl => ?_
  simp only [List.length_map] at tl
  exact h A n c tl
attribute [irreducible] wri
theorem spec_wnum (w0 : World) (b : Nat) (l : Bs) (n : Int) (size : Nat) (fr : List SProp) (h0 : 0 ≤ n) (hs : size ≤ 8) (hl : l.length ≤ 1000000000) :
    Spec Tryz.prog w0 32 [ptr b, num n, num size] (wri b l :: fr) (fun v cs' => v = unit ∧ cs' = wri b (l ++ numB size n.toNat) :: fr) := by
  refine Spec.of_body Tryz.func32 rfl Tryz.ntmps32 rfl ?_
  refine H.seq ?_
  refine H.region ?_
  refine Ops.quiet (Qt.move rfl) rfl ?_
  refine Ops.quiet (Qt.subk rfl rfl (by first | exact IntWalk.i64_in _ (by omega) | exact IntWalk.u8_in _ (by omega) | exact IntWalk.u64_in _ (by omega) | exact IntWalk.u32_in _ (by omega) | exact IntWalk.u16_in _ (by omega))) rfl ?_
  refine Ops.quiet (Qt.assign rfl) rfl ?_
  refine Ops.nil ?_
  refine H.then_normal ?_
  refine H.block ?_
  refine H.loop (X := Nat × Bs) (fun p => [(0, ptr b), (1, num n), (2, num size), (6, num ((p.1 : Int) - 1))]) (fun p => wri b (l ++ p.2) :: fr) (fun p => p.2 ++ numB p.1 n.toNat = numB size n.toNat ∧ p.1 ≤ size) (fun p => p.1) (size, []) ⟨rfl, Nat.le_refl _⟩ (by repeat (first | exact trivial | refine ⟨rfl, ?_⟩)) (fun w hw => by rw [List.append_nil]; exact hw) ?_
  rintro ⟨j, pre⟩ ⟨hp, hj⟩
  simp only at hp hj
  have hpl : pre.length ≤ 8 := by have := congrArg List.length hp; simp only [List.length_append, numB_len] at this; omega
  change H _ _ [(0, ptr b), (1, num n), (2, num size), (6, num ((j : Int) - 1))] (wri b (l ++ pre) :: fr) _
  refine H.seq ?_
  refine H.seq ?_
  refine H.region ?_
  refine Ops.quiet (Qt.move rfl) rfl ?_
  refine Ops.quiet (Qt.geq rfl rfl) rfl ?_
  refine Ops.nil ?_
  refine H.then_normal ?_
  refine H.cond rfl (fun h10 => ?_) (fun h10 => ?_)
  · try simp only [decide_eq_true_eq, decide_eq_false_iff_not, beq_iff_eq, beq_eq_false_iff_ne, bne_iff_ne, ne_eq, Bool.not_eq_true', Bool.not_eq_false', bne_eq_false_iff_eq, Bool.not_eq_eq_eq_not, Bool.not_true, Bool.not_false] at h10
    refine H.skip ?_
    refine H.then_normal ?_
    refine H.seq ?_
    refine H.block ?_
    obtain ⟨k, rfl⟩ : ∃ k, j = k + 1 := ⟨j - 1, by omega⟩
    have hk1 : ((k + 1 : Nat) : Int) - 1 = k := by omega
    rw [hk1]
    refine H.open_wri fun A q c ⟨l1, l2, l3⟩ => ?_
    have hv : Value.int .i64 (n.fdiv (2 ^ (min (8 * (k : Int)).toNat IntKind.i64.bits))) = num ((n.toNat / 256 ^ k : Nat) : Int) := by rw [shr_i h0 (by omega)]
    have hw : Value.int .u8 (IntKind.u8.wrap ((n.toNat / 256 ^ k : Nat) : Int)) = u8v (byteN (n.toNat / 256 ^ k)) := byteN_u8 (Int.natCast_nonneg _)
    have hl2 : q ≤ 1000000008 := by rw [← l1, List.length_append]; omega
    refine H.drawn ([blk b [.slice A q c] 61]) 12 mixed (by kernel_rfl) ?_
    refine Hd.quiet 0 (by kernel_rfl) rfl rfl (by kernel_rfl) rfl (Qt.move rfl) ?_
    refine Hd.quiet 1 (by kernel_rfl) rfl rfl (by kernel_rfl) rfl (Qt.move rfl) ?_
    refine Hd.quiet 2 (by kernel_rfl) rfl rfl (by kernel_rfl) rfl (Qt.nilCheck rfl) ?_
    refine Hd.quiet 3 (by kernel_rfl) rfl rfl (by kernel_rfl) rfl (Qt.fieldAddr rfl (tk rfl) rfl) ?_
    refine Hd.quiet 4 (by kernel_rfl) rfl rfl (by kernel_rfl) rfl (Qt.load rfl (tk rfl) rfl (by repeat (first | exact List.Mem.head _ | apply List.Mem.tail)) (by rfl)) ?_
    refine Hd.quiet 5 (by kernel_rfl) rfl rfl (by kernel_rfl) rfl (Qt.move rfl) ?_
    refine Hd.quiet 6 (by kernel_rfl) rfl rfl (by kernel_rfl) rfl (Qt.move rfl) ?_
    refine Hd.quiet 7 (by kernel_rfl) rfl rfl (by kernel_rfl) rfl (Qt.mulk rfl rfl (by first | exact IntWalk.i64_in _ (by omega) | exact IntWalk.u8_in _ (by omega) | exact IntWalk.u64_in _ (by omega) | exact IntWalk.u32_in _ (by omega) | exact IntWalk.u16_in _ (by omega))) ?_
    refine Hd.quiet 8 (by kernel_rfl) rfl rfl (by kernel_rfl) rfl (Qt.cast (Qt.shr rfl rfl (by omega)) hv) ?_
    refine Hd.quiet 9 (by kernel_rfl) rfl rfl (by kernel_rfl) rfl (Qt.cast (Qt.conv_int rfl (tk rfl) (tk rfl)) hw) ?_
    refine Hd.eff 10 (by intro w hw; first | exact hw | exact Own.sub (by repeat (first | exact List.Sublist.refl _ | exact List.nil_sublist _ | apply List.Sublist.cons_cons | apply List.Sublist.cons)) hw) rfl rfl (by kernel_rfl) rfl (Ef.buildSlice (tk rfl) (tk rfl) rfl (zk rfl) rfl rfl rfl (by repeat (first | exact ones_nil | refine ones_cons rfl ?_))) ?_
    rintro _ _ ⟨A23, c23, rfl, rfl⟩
    refine Hd.eff 11 (by intro w hw; first | exact hw | exact Own.sub (by repeat (first | exact List.Sublist.refl _ | exact List.nil_sublist _ | apply List.Sublist.cons_cons | apply List.Sublist.cons)) hw) rfl rfl (by kernel_rfl) rfl (Ef.append1 (f := u8v) (l := l ++ pre) (b := byteN (n.toNat / 256 ^ k)) rfl rfl (tk rfl) (tk rfl) rfl (zk rfl) (by repeat (first | assumption | exact Reads.of_head | apply Reads.tail)) (by intro _ _; repeat (first | exact Upd.head | apply Upd.tail)) (fun _ => rfl) (by dsimp only; omega) (by simp only [maxLen]; omega)) ?_
    rintro _ _ ⟨A24, c24, rfl, rfl⟩
    refine Hd.tail (by intro w hw; first | exact hw | exact Own.sub (by repeat (first | exact List.Sublist.refl _ | exact List.nil_sublist _ | apply List.Sublist.cons_cons | apply List.Sublist.cons)) hw) (by kernel_rfl) rfl ?_
    refine Ops.quiet (Qt.nilCheck rfl) rfl ?_
    refine Ops.quiet (Qt.fieldAddr rfl (tk rfl) rfl) rfl ?_
    refine Ops.eff (Ef.store rfl rfl (tk rfl) rfl rfl (by repeat (first | exact ones_nil | refine ones_cons rfl ?_)) (by repeat (first | exact Upd.head | apply Upd.tail)) (by rfl)) rfl ?_
    rintro _ _ rfl
    refine Ops.nil ?_
    refine H.blk_normal ?_
    refine H.then_normal ?_
    refine H.region ?_
    refine Ops.quiet (Qt.move rfl) rfl ?_
    refine Ops.quiet (Qt.subk rfl rfl (by first | exact IntWalk.i64_in _ (by omega) | exact IntWalk.u8_in _ (by omega) | exact IntWalk.u64_in _ (by omega) | exact IntWalk.u32_in _ (by omega) | exact IntWalk.u16_in _ (by omega))) rfl ?_
    refine Ops.quiet (Qt.assign rfl) rfl ?_
    refine Ops.nil ?_
    refine H.then_normal ?_
    have e1 : ((k : Int) - 1) = ((k : Nat) : Int) - 1 := rfl
    refine H.round (k, pre ++ [byteN (n.toNat / 256 ^ k)]) ⟨by show (pre ++ [_]) ++ numB k n.toNat = _; rw [← hp, numB]; simp, by show k ≤ size; omega⟩ (by simp only []; omega) (by repeat (first | exact trivial | refine ⟨rfl, ?_⟩)) (fun w hw => ?_)
    refine wri_mk (A := A24) (n := q + 1) (c := c24) ?_
    rw [← List.append_assoc]
    exact hw.sub (by repeat (first | exact List.Sublist.refl _ | exact List.nil_sublist _ | apply List.Sublist.cons_cons | apply List.Sublist.cons))
  · try simp only [decide_eq_true_eq, decide_eq_false_iff_not, beq_iff_eq, beq_eq_false_iff_ne, bne_iff_ne, ne_eq, Bool.not_eq_true', Bool.not_eq_false', bne_eq_false_iff_eq, Bool.not_eq_eq_eq_not, Bool.not_true, Bool.not_false] at h10
    refine H.exit ?_
    refine H.then_exit ?_
    refine H.then_exit ?_
    refine H.blk_hit ?_
    have hj0 : j = 0 := by omega
    subst hj0
    have e1 : pre = numB size n.toNat := by rw [← hp]; simp [numB]
    rw [e1]
    refine (H.ends_n rfl (ResAll.nil) ?_)
    exact ⟨rfl, rfl⟩
theorem spec_wtext (w0 : World) (b : Nat) (l s : Bs) (fr : List SProp) (hs : s.length ≤ 1000000) (hl : l.length ≤ 100000000) :
    Spec Tryz.prog w0 33 [ptr b, str s] (wri b l :: fr) (fun v cs' => v = unit ∧ cs' = wri b (l ++ txtB s) :: fr) := by
  refine Spec.of_body Tryz.func33 rfl Tryz.ntmps33 rfl ?_
  refine H.seq ?_
  refine H.region ?_
  refine Ops.quiet (Qt.move rfl) rfl ?_
  refine Ops.quiet (Qt.move rfl) rfl ?_
  refine Ops.quiet (Qt.len_str rfl (tk rfl)) rfl ?_
  refine Ops.eff (Ef.call (fok fab_all rfl Tryz.func32 rfl) rfl (spec_wnum w0 b l s.length 2 fr (by omega) (by omega) (by omega))) rfl ?_
  rintro _ c0 ⟨rfl, h0⟩; subst c0
  refine Ops.nil ?_
  refine H.then_normal ?_
  have hnl := numB_len 2 (s.length : Int).toNat
  refine H.open_wri fun A q c ⟨l1, l2, l3⟩ => ?_
  rw [List.length_append] at l1
  refine H.region ?_
  refine Ops.quiet (Qt.move rfl) rfl ?_
  refine Ops.quiet (Qt.move rfl) rfl ?_
  refine Ops.quiet (Qt.nilCheck rfl) rfl ?_
  refine Ops.quiet (Qt.fieldAddr rfl (tk rfl) rfl) rfl ?_
  refine Ops.quiet (Qt.load rfl (tk rfl) rfl (by repeat (first | exact List.Mem.head _ | apply List.Mem.tail)) (by rfl)) rfl ?_
  refine Ops.quiet (Qt.move rfl) rfl ?_
  refine Ops.eff (Ef.append_str rfl rfl (tk rfl) (tk rfl) (tk rfl) rfl (zk rfl) (by intro _ _; repeat (first | exact Upd.head | apply Upd.tail)) (by dsimp only; omega) (by simp only [maxLen]; omega)) rfl ?_
  rintro _ _ ⟨A14, c14, rfl, rfl⟩
  refine Ops.quiet (Qt.nilCheck rfl) rfl ?_
  refine Ops.quiet (Qt.fieldAddr rfl (tk rfl) rfl) rfl ?_
  refine Ops.eff (Ef.store rfl rfl (tk rfl) rfl rfl (by repeat (first | exact ones_nil | refine ones_cons rfl ?_)) (by repeat (first | exact Upd.head | apply Upd.tail)) (by rfl)) rfl ?_
  rintro _ _ rfl
  refine Ops.nil ?_
  refine H.conv (fun w hw => wri_mk (l := (l ++ numB 2 (s.length : Int).toNat) ++ s) hw) (H.ends_n rfl (ResAll.nil) ?_)
  exact ⟨rfl, by rw [List.append_assoc]; rfl⟩
theorem rcB_take_le (l : List Bs) (i : Nat) : (rcB (l.take i)).length ≤ (rcB l).length := flat_take_le _ _ _
theorem rcB_succ {l : List Bs} {i : Nat} (h : i < l.length) : rcB (l.take (i + 1)) = rcB (l.take i) ++ txtB (l.getD i []) := flat_take_succ _ [] h
theorem txtB_len (s : Bs) : (txtB s).length = s.length + 2 := by simp [txtB, numB_len]; omega
structure BB (m : Mg) : Prop where
  nu : (numsB m.nums).length ≤ 100
  rc : (rcB m.rcpts).length ≤ 20000200
  mt : (mkB m.marks).length ≤ 1000
  bd : (rcB m.body).length ≤ 65536
theorem numsB_len (l : List Int) : (numsB l).length = 6 * l.length := by
  induction l with
  | nil => rfl
  | cons x l ih =>
    have : numsB (x :: l) = numB 6 x.toNat ++ numsB l := by simp [numsB]
    rw [this, List.length_append, numB_len, ih, List.length_cons]; omega
theorem mkB_len (l : List Int) : (mkB l).length = l.length := by
  induction l with
  | nil => rfl
  | cons x l ih =>
    have : mkB (x :: l) = [byteN x.toNat] ++ mkB l := by simp [mkB]
    rw [this, List.length_append, ih, List.length_cons]; simp; omega
theorem rcB_len (l : List Bs) : (rcB l).length ≤ sizeL l := by
  induction l with
  | nil => simp [rcB, sizeL]
  | cons s l ih =>
    have h1 : rcB (s :: l) = txtB s ++ rcB l := by simp [rcB]
    have h2 : sizeL (s :: l) = s.length + 2 + sizeL l := by simp [sizeL]
    rw [h1, h2, List.length_append, txtB_len]; omega
theorem GoodM.bb {m : Mg} (h : GoodM m) (hb : MB m) : BB m := by
  refine ⟨by rw [numsB_len]; simp [Mg.nums], ?_, ?_, ?_⟩
  · have := flat_len txtB (B := 1000002) (l := m.rcpts) (fun s hs => by have := hb.r s hs; rw [txtB_len]; omega)
    have h1 := h.r1
    have : 1000002 * m.rcpts.length ≤ 1000002 * 20 := Nat.mul_le_mul_left _ h1
    unfold rcB
    omega
  · have := mkB_len m.marks
    have h1 := h.m1
    omega
  · exact Nat.le_trans (rcB_len _) (goodB_size h.bd)
theorem spec_bencode (w0 : World) (hG : Gl w0) (m : Mg) (a : Ma) (hb : MB m) (hg : GoodM m) (cs : List SProp) (hm : MR w0 cs m a) :
    Spec Tryz.prog w0 17 [m.v a] cs (fun v cs' => ∃ A c, v = .tuple #[.slice A (bytesM m).length c, num 0] ∧ cs' = osl 5 A (bytesM m).length c ((bytesM m).map u8v) :: cs) := by
  have hq := spec_egood w0 hG m a hb
  obtain ⟨t1, t2, t3, t4⟩ := hg.bb hb
  rw [goodM_iff.2 hg] at hq
  obtain ⟨hr, hk, hd⟩ := hm
  have hf := hb.f
  have hbl := goodB_len hg.bd
  have hr1 := hg.r1
  have hm1 := hg.m1
  refine Spec.of_body Tryz.func17 rfl Tryz.ntmps17 rfl ?_
  refine H.fact (fun w hw => (hr w hw).facts) fun ⟨rl1, rl2, rl3, rl4⟩ => ?_
  refine H.fact (fun w hw => (hk w hw).facts) fun ⟨ml1, ml2, ml3, ml4⟩ => ?_
  refine H.fact (fun w hw => (hd w hw).facts) fun ⟨bl1, bl2, bl3, bl4⟩ => ?_
  simp only [List.length_map] at rl1 ml1 bl1
  refine H.seq ?_
  refine H.region ?_
  refine Ops.eff (Ef.box rfl rfl) rfl ?_
  rintro _ _ ⟨b1, rfl, rfl⟩
  refine Ops.quiet (Qt.assign rfl) rfl ?_
  refine Ops.quiet (Qt.assign rfl) rfl ?_
  refine Ops.nil ?_
  refine H.then_normal ?_
  refine H.seq ?_
  refine H.seq ?_
  refine H.region ?_
  refine Ops.quiet (Qt.load_agg rfl (tk rfl) rfl (by repeat (first | exact List.Mem.head _ | apply List.Mem.tail)) (by rfl) (by rfl)) rfl ?_
  refine Ops.eff (Ef.call (fok fab_all rfl Tryz.func27 rfl) rfl (hq _ (MR.tail ⟨hr, hk, hd⟩))) rfl ?_
  rintro _ c0 ⟨rfl, h0⟩; subst c0
  refine Ops.quiet (Qt.not rfl) rfl ?_
  refine Ops.nil ?_
  refine H.then_normal ?_
  refine H.cond_false rfl (by rfl) ?_
  refine H.skip ?_
  refine H.then_normal ?_
  refine H.seq ?_
  refine H.region ?_
  refine Ops.eff (Ef.buildSlice (tk rfl) (tk rfl) rfl (zk rfl) rfl rfl rfl (by repeat (first | exact ones_nil | refine ones_cons rfl ?_))) rfl ?_
  rintro _ _ ⟨A16, c16, rfl, rfl⟩
  refine Ops.quiet (Qt.build (tk rfl) (zk rfl) rfl (by rfl)) rfl ?_
  refine Ops.eff (Ef.box rfl rfl) rfl ?_
  rintro _ _ ⟨b18, rfl, rfl⟩
  refine Ops.quiet (Qt.assign rfl) rfl ?_
  refine Ops.nil ?_
  refine H.then_normal ?_
  refine H.seq ?_
  refine H.seq ?_
  refine H.conv (fun w hw => wri_mk (l := [2]) hw) ?_
  refine H.region ?_
  refine Ops.quiet (Qt.fieldAddr rfl (tk rfl) rfl) rfl ?_
  refine Ops.quiet (Qt.load rfl (tk rfl) rfl (by repeat (first | exact List.Mem.head _ | apply List.Mem.tail)) (by rfl)) rfl ?_
  refine Ops.quiet (Qt.fieldAddr rfl (tk rfl) rfl) rfl ?_
  refine Ops.quiet (Qt.load rfl (tk rfl) rfl (by repeat (first | exact List.Mem.head _ | apply List.Mem.tail)) (by rfl)) rfl ?_
  refine Ops.quiet (Qt.fieldAddr rfl (tk rfl) rfl) rfl ?_
  refine Ops.quiet (Qt.load rfl (tk rfl) rfl (by repeat (first | exact List.Mem.head _ | apply List.Mem.tail)) (by rfl)) rfl ?_
  refine Ops.quiet (Qt.fieldAddr rfl (tk rfl) rfl) rfl ?_
  refine Ops.quiet (Qt.load rfl (tk rfl) rfl (by repeat (first | exact List.Mem.head _ | apply List.Mem.tail)) (by rfl)) rfl ?_
  refine Ops.quiet (Qt.fieldAddr rfl (tk rfl) rfl) rfl ?_
  refine Ops.quiet (Qt.load rfl (tk rfl) rfl (by repeat (first | exact List.Mem.head _ | apply List.Mem.tail)) (by rfl)) rfl ?_
  refine Ops.quiet (Qt.build_arr (tk rfl) (tk rfl) (zk rfl) rfl (by rfl)) rfl ?_
  refine Ops.quiet (Qt.move rfl) rfl ?_
  refine Ops.nil ?_
  refine H.then_normal ?_
  refine H.block ?_
  refine H.loop (X := Nat) (fun i => [(1, ptr b1), (4, ptr b18), (29, .agg (m.nums.map num).toArray), (30, num i)]) (fun i => wri b18 ([2] ++ numsB (m.nums.take i)) :: blk b1 (m.cells a) 25 :: cs) (fun i => i ≤ 5) (fun i => 5 - i) 0 (Nat.zero_le _) (by repeat (first | exact trivial | refine ⟨rfl, ?_⟩)) (fun w hw => hw) ?_
  intro i hi
  have q0 : (numsB (m.nums.take i)).length ≤ (numsB m.nums).length := flat_take_le _ _ _
  refine H.seq ?_
  refine H.region ?_
  refine Ops.quiet (Qt.lss rfl rfl) rfl ?_
  refine Ops.nil ?_
  refine H.then_normal ?_
  refine H.seq ?_
  refine H.cond rfl (fun h31 => ?_) (fun h31 => ?_)
  · try simp only [decide_eq_true_eq, decide_eq_false_iff_not, beq_iff_eq, beq_eq_false_iff_ne, bne_iff_ne, ne_eq, Bool.not_eq_true', Bool.not_eq_false', bne_eq_false_iff_eq, Bool.not_eq_eq_eq_not, Bool.not_true, Bool.not_false] at h31
    refine H.skip ?_
    refine H.then_normal ?_
    refine H.seq ?_
    refine H.block ?_
    refine H.seq ?_
    have hi2 : i < m.nums.length := by show i < 5; omega
    have hin := hg.nums _ (getD_mem 0 hi2)
    have hvi : (m.nums.map num).getD (i : Int).toNat undef = num (m.nums.getD i 0) := by
      show (m.nums.map num).getD i undef = _
      rw [List.getD_eq_getElem?_getD, getD_map num m.nums 0 hi2]
      rfl
    refine H.region ?_
    refine Ops.quiet (Qt.cast (Qt.index_arr undef rfl rfl (tk rfl) (tk rfl) rfl rfl rfl (by omega) (by omega)) hvi) rfl ?_
    refine Ops.quiet (Qt.assign rfl) rfl ?_
    refine Ops.nil ?_
    refine H.then_normal ?_
    refine H.region ?_
    refine Ops.quiet (Qt.move rfl) rfl ?_
    refine Ops.quiet (Qt.move rfl) rfl ?_
    refine Ops.eff (Ef.call (fok fab_all rfl Tryz.func32 rfl) rfl (spec_wnum w0 b18 _ (m.nums.getD i 0) 6 _ hin.1 (by omega) (by simp only [List.length_append, numB_len, txtB_len, List.length_cons, List.length_nil]; omega))) rfl ?_
    rintro _ c0 ⟨rfl, h0⟩; subst c0
    refine Ops.nil ?_
    refine H.blk_normal ?_
    refine H.then_normal ?_
    refine H.region ?_
    refine Ops.quiet (Qt.addk rfl rfl (by first | exact IntWalk.i64_in _ (by omega) | exact IntWalk.u8_in _ (by omega) | exact IntWalk.u64_in _ (by omega) | exact IntWalk.u32_in _ (by omega) | exact IntWalk.u16_in _ (by omega))) rfl ?_
    refine Ops.quiet (Qt.move rfl) rfl ?_
    refine Ops.nil ?_
    refine H.then_normal ?_
    refine H.round (i + 1) (by omega) (by omega) (by repeat (first | exact trivial | refine ⟨rfl, ?_⟩)) (fun w hw => ?_)
    have e : [2] ++ numsB (m.nums.take (i + 1)) = ([2] ++ numsB (m.nums.take i)) ++ numB 6 (m.nums.getD i 0).toNat := by rw [numsB, flat_take_succ _ 0 hi2, ← List.append_assoc]; rfl
    rw [e]
    exact hw
  · try simp only [decide_eq_true_eq, decide_eq_false_iff_not, beq_iff_eq, beq_eq_false_iff_ne, bne_iff_ne, ne_eq, Bool.not_eq_true', Bool.not_eq_false', bne_eq_false_iff_eq, Bool.not_eq_eq_eq_not, Bool.not_true, Bool.not_false] at h31
    refine H.exit ?_
    refine H.then_exit ?_
    refine H.then_exit ?_
    refine H.blk_hit ?_
    refine H.then_normal ?_
    refine H.seq ?_
    have e1 : m.nums.take i = m.nums := List.take_of_length_le (by show 5 ≤ i; omega)
    rw [e1]
    refine H.region ?_
    refine Ops.quiet (Qt.move rfl) rfl ?_
    refine Ops.quiet (Qt.fieldAddr rfl (tk rfl) rfl) rfl ?_
    refine Ops.quiet (Qt.load rfl (tk rfl) rfl (by repeat (first | exact List.Mem.head _ | apply List.Mem.tail)) (by rfl)) rfl ?_
    refine Ops.eff (Ef.call (fok fab_all rfl Tryz.func33 rfl) rfl (spec_wtext w0 b18 _ m.frm _ hf (by simp only [List.length_append, numB_len, txtB_len, List.length_cons, List.length_nil]; omega))) rfl ?_
    rintro _ c0 ⟨rfl, h0⟩; subst c0
    refine Ops.nil ?_
    refine H.then_normal ?_
    refine H.seq ?_
    refine H.region ?_
    refine Ops.quiet (Qt.move rfl) rfl ?_
    refine Ops.quiet (Qt.fieldAddr rfl (tk rfl) rfl) rfl ?_
    refine Ops.quiet (Qt.load rfl (tk rfl) rfl (by repeat (first | exact List.Mem.head _ | apply List.Mem.tail)) (by rfl)) rfl ?_
    refine Ops.quiet (Qt.len_sl (ats := #[]) rfl (tk rfl)) rfl ?_
    refine Ops.eff (Ef.call (fok fab_all rfl Tryz.func32 rfl) rfl (spec_wnum w0 b18 _ (a.r.n : Int) 2 _ (by omega) (by omega) (by simp only [List.length_append, numB_len, txtB_len, List.length_cons, List.length_nil]; omega))) rfl ?_
    rintro _ c0 ⟨rfl, h0⟩; subst c0
    refine Ops.nil ?_
    refine H.then_normal ?_
    refine H.seq ?_
    refine H.seq ?_
    have e2 : (a.r.n : Int).toNat = m.rcpts.length := by omega
    rw [e2]
    refine H.region ?_
    refine Ops.quiet (Qt.fieldAddr rfl (tk rfl) rfl) rfl ?_
    refine Ops.quiet (Qt.load rfl (tk rfl) rfl (by repeat (first | exact List.Mem.head _ | apply List.Mem.tail)) (by rfl)) rfl ?_
    refine Ops.quiet (Qt.len_sl (ats := #[]) rfl (tk rfl)) rfl ?_
    refine Ops.quiet (Qt.move rfl) rfl ?_
    refine Ops.nil ?_
    refine H.then_normal ?_
    refine H.block ?_
    refine H.loop (X := Nat) (fun i => [(1, ptr b1), (4, ptr b18), (47, a.r.v), (48, num a.r.n), (49, num i)]) (fun i => wri b18 (([2] ++ numsB m.nums ++ txtB m.frm ++ numB 2 m.rcpts.length) ++ rcB (m.rcpts.take i)) :: blk b1 (m.cells a) 25 :: cs) (fun i => i ≤ a.r.n) (fun i => a.r.n - i) 0 (Nat.zero_le _) (by repeat (first | exact trivial | refine ⟨rfl, ?_⟩)) (fun w hw => by have e : ([2] ++ numsB m.nums ++ txtB m.frm ++ numB 2 m.rcpts.length) ++ rcB (m.rcpts.take 0) = [2] ++ numsB m.nums ++ txtB m.frm ++ numB 2 m.rcpts.length := List.append_nil _; rw [e]; exact hw) ?_
    intro i hi
    have q1 : (rcB (m.rcpts.take i)).length ≤ (rcB m.rcpts).length := flat_take_le _ _ _
    refine H.seq ?_
    refine H.region ?_
    refine Ops.quiet (Qt.lss rfl rfl) rfl ?_
    refine Ops.nil ?_
    refine H.then_normal ?_
    refine H.seq ?_
    refine H.cond rfl (fun h50 => ?_) (fun h50 => ?_)
    · try simp only [decide_eq_true_eq, decide_eq_false_iff_not, beq_iff_eq, beq_eq_false_iff_ne, bne_iff_ne, ne_eq, Bool.not_eq_true', Bool.not_eq_false', bne_eq_false_iff_eq, Bool.not_eq_eq_eq_not, Bool.not_true, Bool.not_false] at h50
      refine H.skip ?_
      refine H.then_normal ?_
      refine H.seq ?_
      refine H.block ?_
      refine H.seq ?_
      have hi2 : i < m.rcpts.length := by omega
      have hsl := hb.r _ (getD_mem [] hi2)
      refine H.region ?_
      refine Ops.quiet (Qt.indexAddr rfl rfl (tk rfl) (tk rfl) rfl (by repeat (first | assumption | exact Reads.of_head | apply Reads.tail)) (by omega) (by omega)) rfl ?_
      refine Ops.quiet (Qt.load_map ([] : List UInt8) rfl (tk rfl) rfl (by repeat (first | assumption | exact Reads.of_head | apply Reads.tail)) (by omega)) rfl ?_
      refine Ops.quiet (Qt.assign rfl) rfl ?_
      refine Ops.nil ?_
      refine H.then_normal ?_
      refine H.region ?_
      refine Ops.quiet (Qt.move rfl) rfl ?_
      refine Ops.quiet (Qt.move rfl) rfl ?_
      refine Ops.eff (Ef.call (fok fab_all rfl Tryz.func33 rfl) rfl (spec_wtext w0 b18 _ (m.rcpts.getD (i : Int).toNat []) _ hsl (by simp only [List.length_append, numB_len, txtB_len, List.length_cons, List.length_nil]; omega))) rfl ?_
      rintro _ c0 ⟨rfl, h0⟩; subst c0
      refine Ops.nil ?_
      refine H.blk_normal ?_
      refine H.then_normal ?_
      refine H.region ?_
      refine Ops.quiet (Qt.addk rfl rfl (by first | exact IntWalk.i64_in _ (by omega) | exact IntWalk.u8_in _ (by omega) | exact IntWalk.u64_in _ (by omega) | exact IntWalk.u32_in _ (by omega) | exact IntWalk.u16_in _ (by omega))) rfl ?_
      refine Ops.quiet (Qt.move rfl) rfl ?_
      refine Ops.nil ?_
      refine H.then_normal ?_
      refine H.round (i + 1) (by omega) (by omega) (by repeat (first | exact trivial | refine ⟨rfl, ?_⟩)) (fun w hw => ?_)
      have e : ([2] ++ numsB m.nums ++ txtB m.frm ++ numB 2 m.rcpts.length) ++ rcB (m.rcpts.take (i + 1)) = (([2] ++ numsB m.nums ++ txtB m.frm ++ numB 2 m.rcpts.length) ++ rcB (m.rcpts.take i)) ++ txtB (m.rcpts.getD i []) := by rw [rcB, flat_take_succ _ [] hi2, ← List.append_assoc]; rfl
      rw [e]
      exact hw
    · try simp only [decide_eq_true_eq, decide_eq_false_iff_not, beq_iff_eq, beq_eq_false_iff_ne, bne_iff_ne, ne_eq, Bool.not_eq_true', Bool.not_eq_false', bne_eq_false_iff_eq, Bool.not_eq_eq_eq_not, Bool.not_true, Bool.not_false] at h50
      refine H.exit ?_
      refine H.then_exit ?_
      refine H.then_exit ?_
      refine H.blk_hit ?_
      refine H.then_normal ?_
      refine H.seq ?_
      have e3 : m.rcpts.take i = m.rcpts := List.take_of_length_le (by omega)
      rw [e3]
      refine H.region ?_
      refine Ops.quiet (Qt.move rfl) rfl ?_
      refine Ops.quiet (Qt.fieldAddr rfl (tk rfl) rfl) rfl ?_
      refine Ops.quiet (Qt.load rfl (tk rfl) rfl (by repeat (first | exact List.Mem.head _ | apply List.Mem.tail)) (by rfl)) rfl ?_
      refine Ops.quiet (Qt.len_sl (ats := #[]) rfl (tk rfl)) rfl ?_
      refine Ops.eff (Ef.call (fok fab_all rfl Tryz.func32 rfl) rfl (spec_wnum w0 b18 _ (a.m.n : Int) 2 _ (by omega) (by omega) (by simp only [List.length_append, numB_len, txtB_len, List.length_cons, List.length_nil]; omega))) rfl ?_
      rintro _ c0 ⟨rfl, h0⟩; subst c0
      refine Ops.nil ?_
      refine H.then_normal ?_
      refine H.seq ?_
      refine H.seq ?_
      have e4 : (a.m.n : Int).toNat = m.marks.length := by omega
      rw [e4]
      refine H.region ?_
      refine Ops.quiet (Qt.fieldAddr rfl (tk rfl) rfl) rfl ?_
      refine Ops.quiet (Qt.load rfl (tk rfl) rfl (by repeat (first | exact List.Mem.head _ | apply List.Mem.tail)) (by rfl)) rfl ?_
      refine Ops.quiet (Qt.len_sl (ats := #[]) rfl (tk rfl)) rfl ?_
      refine Ops.quiet (Qt.move rfl) rfl ?_
      refine Ops.nil ?_
      refine H.then_normal ?_
      refine H.block ?_
      refine H.loop (X := Nat) (fun i => [(1, ptr b1), (4, ptr b18), (63, a.m.v), (64, num a.m.n), (65, num i)]) (fun i => wri b18 (([2] ++ numsB m.nums ++ txtB m.frm ++ numB 2 m.rcpts.length ++ rcB m.rcpts ++ numB 2 m.marks.length) ++ mkB (m.marks.take i)) :: blk b1 (m.cells a) 25 :: cs) (fun i => i ≤ a.m.n) (fun i => a.m.n - i) 0 (Nat.zero_le _) (by repeat (first | exact trivial | refine ⟨rfl, ?_⟩)) (fun w hw => by have e : ([2] ++ numsB m.nums ++ txtB m.frm ++ numB 2 m.rcpts.length ++ rcB m.rcpts ++ numB 2 m.marks.length) ++ mkB (m.marks.take 0) = [2] ++ numsB m.nums ++ txtB m.frm ++ numB 2 m.rcpts.length ++ rcB m.rcpts ++ numB 2 m.marks.length := List.append_nil _; rw [e]; exact hw) ?_
      intro i hi
      have q2 : (mkB (m.marks.take i)).length ≤ (mkB m.marks).length := flat_take_le _ _ _
      refine H.seq ?_
      refine H.region ?_
      refine Ops.quiet (Qt.lss rfl rfl) rfl ?_
      refine Ops.nil ?_
      refine H.then_normal ?_
      refine H.seq ?_
      refine H.cond rfl (fun h66 => ?_) (fun h66 => ?_)
      · try simp only [decide_eq_true_eq, decide_eq_false_iff_not, beq_iff_eq, beq_eq_false_iff_ne, bne_iff_ne, ne_eq, Bool.not_eq_true', Bool.not_eq_false', bne_eq_false_iff_eq, Bool.not_eq_eq_eq_not, Bool.not_true, Bool.not_false] at h66
        refine H.skip ?_
        refine H.then_normal ?_
        refine H.seq ?_
        refine H.block ?_
        refine H.seq ?_
        have hi2 : i < m.marks.length := by omega
        have hsl := hg.mks _ (getD_mem 0 hi2)
        have hsl' : 0 ≤ m.marks.getD (i : Int).toNat 0 := hsl.1
        refine H.region ?_
        refine Ops.quiet (Qt.indexAddr rfl rfl (tk rfl) (tk rfl) rfl (by repeat (first | assumption | exact Reads.of_head | apply Reads.tail)) (by omega) (by omega)) rfl ?_
        refine Ops.quiet (Qt.load_map (0 : Int) rfl (tk rfl) rfl (by repeat (first | assumption | exact Reads.of_head | apply Reads.tail)) (by omega)) rfl ?_
        refine Ops.quiet (Qt.assign rfl) rfl ?_
        refine Ops.nil ?_
        refine H.then_normal ?_
        refine H.region ?_
        refine Ops.quiet (Qt.move rfl) rfl ?_
        refine Ops.quiet (Qt.move rfl) rfl ?_
        refine Ops.eff (Ef.call (fok fab_all rfl Tryz.func32 rfl) rfl (spec_wnum w0 b18 _ (m.marks.getD (i : Int).toNat 0) 1 _ hsl' (by omega) (by simp only [List.length_append, numB_len, txtB_len, List.length_cons, List.length_nil]; omega))) rfl ?_
        rintro _ c0 ⟨rfl, h0⟩; subst c0
        refine Ops.nil ?_
        refine H.blk_normal ?_
        refine H.then_normal ?_
        refine H.region ?_
        refine Ops.quiet (Qt.addk rfl rfl (by first | exact IntWalk.i64_in _ (by omega) | exact IntWalk.u8_in _ (by omega) | exact IntWalk.u64_in _ (by omega) | exact IntWalk.u32_in _ (by omega) | exact IntWalk.u16_in _ (by omega))) rfl ?_
        refine Ops.quiet (Qt.move rfl) rfl ?_
        refine Ops.nil ?_
        refine H.then_normal ?_
        refine H.round (i + 1) (by omega) (by omega) (by repeat (first | exact trivial | refine ⟨rfl, ?_⟩)) (fun w hw => ?_)
        have e : ([2] ++ numsB m.nums ++ txtB m.frm ++ numB 2 m.rcpts.length ++ rcB m.rcpts ++ numB 2 m.marks.length) ++ mkB (m.marks.take (i + 1)) = (([2] ++ numsB m.nums ++ txtB m.frm ++ numB 2 m.rcpts.length ++ rcB m.rcpts ++ numB 2 m.marks.length) ++ mkB (m.marks.take i)) ++ numB 1 (m.marks.getD i 0).toNat := by rw [mkB, flat_take_succ _ 0 hi2, ← List.append_assoc]; simp [numB, mkB]
        rw [e]
        exact hw
      · try simp only [decide_eq_true_eq, decide_eq_false_iff_not, beq_iff_eq, beq_eq_false_iff_ne, bne_iff_ne, ne_eq, Bool.not_eq_true', Bool.not_eq_false', bne_eq_false_iff_eq, Bool.not_eq_eq_eq_not, Bool.not_true, Bool.not_false] at h66
        refine H.exit ?_
        refine H.then_exit ?_
        refine H.then_exit ?_
        refine H.blk_hit ?_
        refine H.then_normal ?_
        refine H.seq ?_
        have e5 : m.marks.take i = m.marks := List.take_of_length_le (by omega)
        rw [e5]
        refine H.region ?_
        refine Ops.quiet (Qt.move rfl) rfl ?_
        refine Ops.quiet (Qt.fieldAddr rfl (tk rfl) rfl) rfl ?_
        refine Ops.quiet (Qt.load rfl (tk rfl) rfl (by repeat (first | exact List.Mem.head _ | apply List.Mem.tail)) (by rfl)) rfl ?_
        refine Ops.quiet (Qt.len_sl (ats := #[]) rfl (tk rfl)) rfl ?_
        refine Ops.eff (Ef.call (fok fab_all rfl Tryz.func32 rfl) rfl (spec_wnum w0 b18 _ (a.b.n : Int) 4 _ (by omega) (by omega) (by simp only [List.length_append, numB_len, txtB_len, List.length_cons, List.length_nil]; omega))) rfl ?_
        rintro _ c0 ⟨rfl, h0⟩; subst c0
        refine Ops.nil ?_
        refine H.then_normal ?_
        refine H.seq ?_
        refine H.seq ?_
        have e6 : (a.b.n : Int).toNat = m.body.length := by omega
        rw [e6]
        refine H.region ?_
        refine Ops.quiet (Qt.fieldAddr rfl (tk rfl) rfl) rfl ?_
        refine Ops.quiet (Qt.load rfl (tk rfl) rfl (by repeat (first | exact List.Mem.head _ | apply List.Mem.tail)) (by rfl)) rfl ?_
        refine Ops.quiet (Qt.len_sl (ats := #[]) rfl (tk rfl)) rfl ?_
        refine Ops.quiet (Qt.move rfl) rfl ?_
        refine Ops.nil ?_
        refine H.then_normal ?_
        refine H.block ?_
        refine H.loop (X := Nat) (fun i => [(1, ptr b1), (4, ptr b18), (79, a.b.v), (80, num a.b.n), (81, num i)]) (fun i => wri b18 (([2] ++ numsB m.nums ++ txtB m.frm ++ numB 2 m.rcpts.length ++ rcB m.rcpts ++ numB 2 m.marks.length ++ mkB m.marks ++ numB 4 m.body.length) ++ rcB (m.body.take i)) :: blk b1 (m.cells a) 25 :: cs) (fun i => i ≤ a.b.n) (fun i => a.b.n - i) 0 (Nat.zero_le _) (by repeat (first | exact trivial | refine ⟨rfl, ?_⟩)) (fun w hw => by have e : ([2] ++ numsB m.nums ++ txtB m.frm ++ numB 2 m.rcpts.length ++ rcB m.rcpts ++ numB 2 m.marks.length ++ mkB m.marks ++ numB 4 m.body.length) ++ rcB (m.body.take 0) = [2] ++ numsB m.nums ++ txtB m.frm ++ numB 2 m.rcpts.length ++ rcB m.rcpts ++ numB 2 m.marks.length ++ mkB m.marks ++ numB 4 m.body.length := List.append_nil _; rw [e]; exact hw) ?_
        intro i hi
        have q3 : (rcB (m.body.take i)).length ≤ (rcB m.body).length := flat_take_le _ _ _
        refine H.seq ?_
        refine H.region ?_
        refine Ops.quiet (Qt.lss rfl rfl) rfl ?_
        refine Ops.nil ?_
        refine H.then_normal ?_
        refine H.seq ?_
        refine H.cond rfl (fun h82 => ?_) (fun h82 => ?_)
        · try simp only [decide_eq_true_eq, decide_eq_false_iff_not, beq_iff_eq, beq_eq_false_iff_ne, bne_iff_ne, ne_eq, Bool.not_eq_true', Bool.not_eq_false', bne_eq_false_iff_eq, Bool.not_eq_eq_eq_not, Bool.not_true, Bool.not_false] at h82
          refine H.skip ?_
          refine H.then_normal ?_
          refine H.seq ?_
          refine H.block ?_
          refine H.seq ?_
          have hi2 : i < m.body.length := by omega
          have hsl := hb.b _ (getD_mem [] hi2)
          refine H.region ?_
          refine Ops.quiet (Qt.indexAddr rfl rfl (tk rfl) (tk rfl) rfl (by repeat (first | assumption | exact Reads.of_head | apply Reads.tail)) (by omega) (by omega)) rfl ?_
          refine Ops.quiet (Qt.load_map ([] : List UInt8) rfl (tk rfl) rfl (by repeat (first | assumption | exact Reads.of_head | apply Reads.tail)) (by omega)) rfl ?_
          refine Ops.quiet (Qt.assign rfl) rfl ?_
          refine Ops.nil ?_
          refine H.then_normal ?_
          refine H.region ?_
          refine Ops.quiet (Qt.move rfl) rfl ?_
          refine Ops.quiet (Qt.move rfl) rfl ?_
          refine Ops.eff (Ef.call (fok fab_all rfl Tryz.func33 rfl) rfl (spec_wtext w0 b18 _ (m.body.getD (i : Int).toNat []) _ hsl (by simp only [List.length_append, numB_len, txtB_len, List.length_cons, List.length_nil]; omega))) rfl ?_
          rintro _ c0 ⟨rfl, h0⟩; subst c0
          refine Ops.nil ?_
          refine H.blk_normal ?_
          refine H.then_normal ?_
          refine H.region ?_
          refine Ops.quiet (Qt.addk rfl rfl (by first | exact IntWalk.i64_in _ (by omega) | exact IntWalk.u8_in _ (by omega) | exact IntWalk.u64_in _ (by omega) | exact IntWalk.u32_in _ (by omega) | exact IntWalk.u16_in _ (by omega))) rfl ?_
          refine Ops.quiet (Qt.move rfl) rfl ?_
          refine Ops.nil ?_
          refine H.then_normal ?_
          refine H.round (i + 1) (by omega) (by omega) (by repeat (first | exact trivial | refine ⟨rfl, ?_⟩)) (fun w hw => ?_)
          have e : ([2] ++ numsB m.nums ++ txtB m.frm ++ numB 2 m.rcpts.length ++ rcB m.rcpts ++ numB 2 m.marks.length ++ mkB m.marks ++ numB 4 m.body.length) ++ rcB (m.body.take (i + 1)) = (([2] ++ numsB m.nums ++ txtB m.frm ++ numB 2 m.rcpts.length ++ rcB m.rcpts ++ numB 2 m.marks.length ++ mkB m.marks ++ numB 4 m.body.length) ++ rcB (m.body.take i)) ++ txtB (m.body.getD i []) := by rw [rcB_succ (l := m.body) hi2, ← List.append_assoc]
          rw [e]
          exact hw
        · try simp only [decide_eq_true_eq, decide_eq_false_iff_not, beq_iff_eq, beq_eq_false_iff_ne, bne_iff_ne, ne_eq, Bool.not_eq_true', Bool.not_eq_false', bne_eq_false_iff_eq, Bool.not_eq_eq_eq_not, Bool.not_true, Bool.not_false] at h82
          refine H.exit ?_
          refine H.then_exit ?_
          refine H.then_exit ?_
          refine H.blk_hit ?_
          refine H.then_normal ?_
          refine H.seq ?_
          have e7 : m.body.take i = m.body := List.take_of_length_le (by omega)
          have e8 : ([2] ++ numsB m.nums ++ txtB m.frm ++ numB 2 m.rcpts.length ++ rcB m.rcpts ++ numB 2 m.marks.length ++ mkB m.marks ++ numB 4 m.body.length) ++ rcB m.body = bytesM m := rfl
          rw [e7, e8]
          refine H.open_wri fun A n c ⟨l1, l2, l3⟩ => ?_
          refine H.region ?_
          refine Ops.quiet (Qt.move rfl) rfl ?_
          refine Ops.quiet (Qt.nilCheck rfl) rfl ?_
          refine Ops.quiet (Qt.fieldAddr rfl (tk rfl) rfl) rfl ?_
          refine Ops.quiet (Qt.load rfl (tk rfl) rfl (by repeat (first | exact List.Mem.head _ | apply List.Mem.tail)) (by rfl)) rfl ?_
          refine Ops.quiet (Qt.assign rfl) rfl ?_
          refine Ops.quiet (Qt.assign rfl) rfl ?_
          refine Ops.nil ?_
          refine H.then_normal ?_
          refine H.ret ?_
          refine (H.ends_to (cs' := osl 5 A n c ((bytesM m).map u8v) :: cs) rfl (.cons (.tmp rfl) (.cons (.tmp rfl) .nil)) (fun w hw => ?_) ?_)
          · exact hw.sub (by repeat (first | exact List.Sublist.refl _ | exact List.nil_sublist _ | apply List.Sublist.cons_cons | apply List.Sublist.cons))
          · exact ⟨A, c, by rw [l1]; rfl, by rw [l1]⟩
/-- A message that is none. -/
theorem spec_bencode_bad (w0 : World) (hG : Gl w0) (m : Mg) (a : Ma) (hb : MB m) (hg : goodM m = false) (cs : List SProp) (hm : MR w0 cs m a) :
    Spec Tryz.prog w0 17 [m.v a] cs (fun v cs' => v = .tuple #[.slice none 0 0, num 2] ∧ cs' = cs) := by
  have hq := spec_egood w0 hG m a hb
  rw [hg] at hq
  refine Spec.of_body Tryz.func17 rfl Tryz.ntmps17 rfl ?_
  refine H.seq ?_
  refine H.region ?_
  refine Ops.eff (Ef.box rfl rfl) rfl ?_
  rintro _ _ ⟨b1, rfl, rfl⟩
  refine Ops.quiet (Qt.assign rfl) rfl ?_
  refine Ops.quiet (Qt.assign rfl) rfl ?_
  refine Ops.nil ?_
  refine H.then_normal ?_
  refine H.seq ?_
  refine H.seq ?_
  refine H.region ?_
  refine Ops.quiet (Qt.load_agg rfl (tk rfl) rfl (by repeat (first | exact List.Mem.head _ | apply List.Mem.tail)) (by rfl) (by rfl)) rfl ?_
  refine Ops.eff (Ef.call (fok fab_all rfl Tryz.func27 rfl) rfl (hq _ (MR.tail hm))) rfl ?_
  rintro _ c0 ⟨rfl, h0⟩; subst c0
  refine Ops.quiet (Qt.not rfl) rfl ?_
  refine Ops.nil ?_
  refine H.then_normal ?_
  refine H.cond_true rfl (by rfl) ?_
  refine H.seq ?_
  refine H.region ?_
  refine Ops.quiet (Qt.assign rfl) rfl ?_
  refine Ops.quiet (Qt.assign rfl) rfl ?_
  refine Ops.nil ?_
  refine H.then_normal ?_
  refine H.ret ?_
  refine H.then_ret ?_
  refine (H.ends_to (cs' := cs) rfl (.cons (.tmp rfl) (.cons (.tmp rfl) .nil)) (fun w hw => ?_) ?_)
  · exact hw.sub (by repeat (first | exact List.Sublist.refl _ | exact List.nil_sublist _ | apply List.Sublist.cons_cons | apply List.Sublist.cons))
  · exact ⟨rfl, rfl⟩
/-! ### The document's bytes -/
theorem rep_set (k : Nat) (suf : Bs) (b : UInt8) : (List.replicate (k + 1) 0 ++ suf).set k b = List.replicate k 0 ++ (b :: suf) := by
  have : List.replicate (k + 1) (0 : UInt8) = List.replicate k 0 ++ [0] := List.replicate_succ'
  rw [this, List.append_assoc, List.set_append_right _ _ (by simp)]
  simp
theorem spec_rnum (w0 : World) (n : Int) (size : Nat) (h0 : 0 ≤ n) (h1 : n ≤ 9223372036854775807) (hs : size ≤ 8) (cs : List SProp) :
    Spec Tryz.prog w0 25 [num n, num size] cs (fun v cs' => ∃ A c, v = .slice A size c ∧ cs' = osl 5 A size c ((numB size n.toNat).map u8v) :: cs) := by
  obtain ⟨x0, rfl⟩ : ∃ x : Nat, n = x := ⟨n.toNat, by omega⟩
  refine Spec.of_body Tryz.func25 rfl Tryz.ntmps25 rfl ?_
  refine H.seq ?_
  refine H.region ?_
  refine Ops.quiet (Qt.assign rfl) rfl ?_
  refine Ops.nil ?_
  refine H.then_normal ?_
  refine H.seq ?_
  refine H.region ?_
  refine Ops.quiet (Qt.move rfl) rfl ?_
  refine Ops.eff (Ef.makeSlice (f := u8v) (b := 0) rfl rfl (tk rfl) (tk rfl) rfl (zk rfl) (fun _ => rfl) (by omega) (by omega) (by simp; omega) (by omega)) rfl ?_
  rintro _ _ ⟨A8, rfl, rfl⟩
  refine Ops.quiet (Qt.assign rfl) rfl ?_
  refine Ops.nil ?_
  refine H.then_normal ?_
  refine H.seq ?_
  refine H.seq ?_
  refine H.region ?_
  refine Ops.quiet (Qt.move rfl) rfl ?_
  refine Ops.quiet (Qt.subk rfl rfl (by first | exact IntWalk.i64_in _ (by omega) | exact IntWalk.u8_in _ (by omega) | exact IntWalk.u64_in _ (by omega) | exact IntWalk.u32_in _ (by omega) | exact IntWalk.u16_in _ (by omega))) rfl ?_
  refine Ops.quiet (Qt.assign rfl) rfl ?_
  refine Ops.nil ?_
  refine H.then_normal ?_
  refine H.block ?_
  refine H.loop (X := Nat × Nat × Bs) (fun p => [(0, num p.2.1), (5, .slice A8 size size), (6, num ((p.1 : Int) - 1))]) (fun p => osl 5 A8 size size ((List.replicate p.1 0 ++ p.2.2).map u8v) :: cs) (fun p => numB p.1 p.2.1 ++ p.2.2 = numB size x0 ∧ p.1 ≤ size ∧ p.2.1 ≤ 9223372036854775807) (fun p => p.1) (size, x0, []) ⟨by simp, Nat.le_refl _, by show x0 ≤ _; omega⟩ (by repeat (first | exact trivial | refine ⟨rfl, ?_⟩)) (fun w hw => by rw [List.append_nil]; exact hw) ?_
  rintro ⟨j, x, suf⟩ ⟨hp, hj, hx⟩
  simp only at hp hj hx
  have hpl : j + suf.length = size := by have := congrArg List.length hp; simp only [List.length_append, numB_len] at this; omega
  change H _ _ [(0, num (x : Int)), (5, .slice A8 size size), (6, num ((j : Int) - 1))] (osl 5 A8 size size ((List.replicate j 0 ++ suf).map u8v) :: cs) _
  refine H.seq ?_
  refine H.seq ?_
  refine H.region ?_
  refine Ops.quiet (Qt.move rfl) rfl ?_
  refine Ops.quiet (Qt.geq rfl rfl) rfl ?_
  refine Ops.nil ?_
  refine H.then_normal ?_
  refine H.cond rfl (fun h12 => ?_) (fun h12 => ?_)
  · try simp only [decide_eq_true_eq, decide_eq_false_iff_not, beq_iff_eq, beq_eq_false_iff_ne, bne_iff_ne, ne_eq, Bool.not_eq_true', Bool.not_eq_false', bne_eq_false_iff_eq, Bool.not_eq_eq_eq_not, Bool.not_true, Bool.not_false] at h12
    refine H.skip ?_
    refine H.then_normal ?_
    refine H.seq ?_
    refine H.block ?_
    refine H.seq ?_
    obtain ⟨k, rfl⟩ : ∃ k, j = k + 1 := ⟨j - 1, by omega⟩
    have hk1 : ((k + 1 : Nat) : Int) - 1 = k := by omega
    rw [hk1]
    have hv : Value.int .u8 ((x : Int) % 256) = u8v (byteN x) := by
      rw [u8_of (by omega) (by omega), byteN]
      congr 2
    refine H.region ?_
    refine Ops.quiet (Qt.move rfl) rfl ?_
    refine Ops.quiet (Qt.move rfl) rfl ?_
    refine Ops.quiet (Qt.move rfl) rfl ?_
    refine Ops.quiet (Qt.remP rfl rfl (by omega) (by omega)) rfl ?_
    refine Ops.quiet (Qt.cast (Qt.conv_k rfl (tk rfl) (tk rfl) (by first | exact IntWalk.i64_in _ (by omega) | exact IntWalk.u8_in _ (by omega) | exact IntWalk.u64_in _ (by omega) | exact IntWalk.u32_in _ (by omega) | exact IntWalk.u16_in _ (by omega))) hv) rfl ?_
    refine Ops.quiet (Qt.indexAddr rfl rfl (tk rfl) (tk rfl) rfl (by repeat (first | assumption | exact Reads.of_head | apply Reads.tail)) (by omega) (by omega)) rfl ?_
    refine Ops.eff (Ef.store_map (f := u8v) (l := List.replicate (k + 1) 0 ++ suf) (b := byteN x) rfl rfl (tk rfl) rfl (fun _ => rfl) (by repeat (first | exact Upd.head | apply Upd.tail)) (by omega)) rfl ?_
    rintro _ _ rfl
    refine Ops.nil ?_
    refine H.then_normal ?_
    refine H.region ?_
    refine Ops.quiet (Qt.move rfl) rfl ?_
    refine Ops.quiet (Qt.quoP rfl rfl (by omega) (by omega) (by first | exact IntWalk.i64_in _ (by omega) | exact IntWalk.u8_in _ (by omega) | exact IntWalk.u64_in _ (by omega) | exact IntWalk.u32_in _ (by omega) | exact IntWalk.u16_in _ (by omega))) rfl ?_
    refine Ops.quiet (Qt.assign rfl) rfl ?_
    refine Ops.nil ?_
    refine H.blk_normal ?_
    refine H.then_normal ?_
    refine H.region ?_
    refine Ops.quiet (Qt.move rfl) rfl ?_
    refine Ops.quiet (Qt.subk rfl rfl (by first | exact IntWalk.i64_in _ (by omega) | exact IntWalk.u8_in _ (by omega) | exact IntWalk.u64_in _ (by omega) | exact IntWalk.u32_in _ (by omega) | exact IntWalk.u16_in _ (by omega))) rfl ?_
    refine Ops.quiet (Qt.assign rfl) rfl ?_
    refine Ops.nil ?_
    refine H.then_normal ?_
    refine H.round (k, x / 256, byteN x :: suf) ⟨by show numB k (x / 256) ++ (byteN x :: suf) = _; rw [← hp, numB_snoc]; simp, by show k ≤ size; omega, by show x / 256 ≤ _; omega⟩ (by simp only []; omega) (by repeat (first | exact trivial | refine ⟨rfl, ?_⟩)) (fun w hw => ?_)
    show Own w0 w (osl 5 A8 size size ((List.replicate k 0 ++ (byteN x :: suf)).map u8v) :: cs)
    rw [← rep_set]
    exact hw
  · try simp only [decide_eq_true_eq, decide_eq_false_iff_not, beq_iff_eq, beq_eq_false_iff_ne, bne_iff_ne, ne_eq, Bool.not_eq_true', Bool.not_eq_false', bne_eq_false_iff_eq, Bool.not_eq_eq_eq_not, Bool.not_true, Bool.not_false] at h12
    refine H.exit ?_
    refine H.then_exit ?_
    refine H.then_exit ?_
    refine H.blk_hit ?_
    refine H.then_normal ?_
    refine H.seq ?_
    refine H.region ?_
    refine Ops.quiet (Qt.move rfl) rfl ?_
    refine Ops.quiet (Qt.assign rfl) rfl ?_
    refine Ops.nil ?_
    refine H.then_normal ?_
    refine H.ret ?_
    have hj0 : j = 0 := by omega
    subst hj0
    have e1 : suf = numB size x0 := by rw [← hp]; simp [numB]
    have e2 : List.replicate 0 0 ++ suf = numB size (x0 : Int).toNat := by rw [e1]; rfl
    rw [e2]
    refine (H.ends rfl (.cons (.tmp rfl) .nil) ?_)
    exact ⟨A8, size, rfl, rfl⟩
theorem spec_rtxt (w0 : World) (s : Bs) (hs : s.length ≤ 1000000) (cs : List SProp) :
    Spec Tryz.prog w0 26 [str s] cs (fun v cs' => ∃ A c, v = .slice A (txtB s).length c ∧ cs' = osl 5 A (txtB s).length c ((txtB s).map u8v) :: cs) := by
  have hl := txtB_len s
  refine Spec.of_body Tryz.func26 rfl Tryz.ntmps26 rfl ?_
  refine H.seq ?_
  refine H.region ?_
  refine Ops.quiet (Qt.assign rfl) rfl ?_
  refine Ops.nil ?_
  refine H.then_normal ?_
  refine H.seq ?_
  refine H.region ?_
  refine Ops.quiet (Qt.move rfl) rfl ?_
  refine Ops.quiet (Qt.len_str rfl (tk rfl)) rfl ?_
  refine Ops.eff (Ef.call (fok fab_all rfl Tryz.func25 rfl) rfl (spec_rnum w0 s.length 2 (by omega) (by omega) (by omega) _)) rfl ?_
  rintro _ _ ⟨A5, c5, rfl, rfl⟩
  refine H.fact (fun w hw => Own.len (osl_reads (.head _)) hw) fun ⟨_, hq1, hq2⟩ => ?_
  refine Ops.quiet (Qt.move rfl) rfl ?_
  refine Ops.eff (Ef.append_str rfl rfl (tk rfl) (tk rfl) (tk rfl) rfl (zk rfl) (by intro _ _; repeat (first | exact Upd.head | apply Upd.tail)) (by dsimp only; omega) (by simp only [maxLen]; omega)) rfl ?_
  rintro _ _ ⟨A7, c7, rfl, rfl⟩
  refine Ops.quiet (Qt.assign rfl) rfl ?_
  refine Ops.nil ?_
  refine H.then_normal ?_
  refine H.ret ?_
  refine (H.ends rfl (.cons (.tmp rfl) .nil) ?_)
  refine ⟨A7, c7, ?_, ?_⟩
  · rw [hl]
    have : s.length + 2 = 2 + s.length := by omega
    rw [this]; rfl
  · rw [hl]
    have : s.length + 2 = 2 + s.length := by omega
    rw [this]; rfl
theorem spec_rbytes (w0 : World) (m : Mg) (a : Ma) (hb : MB m) (hg : GoodM m) (cs : List SProp) (hm : MR w0 cs m a) :
    Spec Tryz.prog w0 14 [m.v a] cs (fun v cs' => ∃ A n c, v = .slice A n c ∧ cs' = osl 5 A n c ((bytesM m).map u8v) :: cs) := by
  obtain ⟨t1, t2, t3, t4⟩ := hg.bb hb
  obtain ⟨hr, hk, hd⟩ := hm
  have hf := hb.f
  have hbl := goodB_len hg.bd
  have hr1 := hg.r1
  have hm1 := hg.m1
  refine Spec.of_body Tryz.func14 rfl Tryz.ntmps14 rfl ?_
  refine H.fact (fun w hw => (hr w hw).facts) fun ⟨rl1, rl2, rl3, rl4⟩ => ?_
  refine H.fact (fun w hw => (hk w hw).facts) fun ⟨ml1, ml2, ml3, ml4⟩ => ?_
  refine H.fact (fun w hw => (hd w hw).facts) fun ⟨bl1, bl2, bl3, bl4⟩ => ?_
  simp only [List.length_map] at rl1 ml1 bl1
  refine H.seq ?_
  refine H.region ?_
  refine Ops.eff (Ef.box rfl rfl) rfl ?_
  rintro _ _ ⟨b1, rfl, rfl⟩
  refine Ops.quiet (Qt.assign rfl) rfl ?_
  refine Ops.nil ?_
  refine H.then_normal ?_
  refine H.seq ?_
  refine H.region ?_
  refine Ops.eff (Ef.buildSlice (tk rfl) (tk rfl) rfl (zk rfl) rfl rfl rfl (by repeat (first | exact ones_nil | refine ones_cons rfl ?_))) rfl ?_
  rintro _ _ ⟨A9, c9, rfl, rfl⟩
  refine Ops.quiet (Qt.assign rfl) rfl ?_
  refine Ops.nil ?_
  refine H.then_normal ?_
  refine H.seq ?_
  refine H.region ?_
  refine Ops.quiet (Qt.fieldAddr rfl (tk rfl) rfl) rfl ?_
  refine Ops.quiet (Qt.load rfl (tk rfl) rfl (by repeat (first | exact List.Mem.head _ | apply List.Mem.tail)) (by rfl)) rfl ?_
  refine Ops.quiet (Qt.fieldAddr rfl (tk rfl) rfl) rfl ?_
  refine Ops.quiet (Qt.load rfl (tk rfl) rfl (by repeat (first | exact List.Mem.head _ | apply List.Mem.tail)) (by rfl)) rfl ?_
  refine Ops.quiet (Qt.fieldAddr rfl (tk rfl) rfl) rfl ?_
  refine Ops.quiet (Qt.load rfl (tk rfl) rfl (by repeat (first | exact List.Mem.head _ | apply List.Mem.tail)) (by rfl)) rfl ?_
  refine Ops.quiet (Qt.fieldAddr rfl (tk rfl) rfl) rfl ?_
  refine Ops.quiet (Qt.load rfl (tk rfl) rfl (by repeat (first | exact List.Mem.head _ | apply List.Mem.tail)) (by rfl)) rfl ?_
  refine Ops.quiet (Qt.fieldAddr rfl (tk rfl) rfl) rfl ?_
  refine Ops.quiet (Qt.load rfl (tk rfl) rfl (by repeat (first | exact List.Mem.head _ | apply List.Mem.tail)) (by rfl)) rfl ?_
  refine Ops.eff (Ef.buildSlice (tk rfl) (tk rfl) rfl (zk rfl) rfl rfl rfl (by repeat (first | exact ones_nil | refine ones_cons rfl ?_))) rfl ?_
  rintro _ _ ⟨A20, c20, rfl, rfl⟩
  refine Ops.quiet (Qt.assign rfl) rfl ?_
  refine Ops.nil ?_
  refine H.then_normal ?_
  refine H.seq ?_
  refine H.seq ?_
  refine H.region ?_
  refine Ops.quiet (Qt.assign rfl) rfl ?_
  refine Ops.nil ?_
  refine H.then_normal ?_
  refine H.block ?_
  refine H.loop (X := Nat × Option Addr × Nat × Nat) (fun p => [(1, ptr b1), (3, .slice p.2.1 p.2.2.1 p.2.2.2), (4, .slice A20 5 c20), (5, num p.1)]) (fun p => osl 5 p.2.1 p.2.2.1 p.2.2.2 (([2] ++ numsB (m.nums.take p.1)).map u8v) :: osl 3 A20 5 c20 (m.nums.map num) :: blk b1 (m.cells a) 25 :: cs) (fun p => p.1 ≤ 5) (fun p => 5 - p.1) (0, A9, 1, c9) (Nat.zero_le _) (by repeat (first | exact trivial | refine ⟨rfl, ?_⟩)) (fun w hw => by
    have h1 := Own.perm (cs' := osl 5 A9 1 c9 [.int .u8 2] :: osl 3 A20 5 c20 [num m.id, num m.gen, num m.born, num m.tries, num m.due] :: blk b1 (m.cells a) 25 :: cs) (.swap _ _ _) hw
    exact h1) ?_
  rintro ⟨i, A, n, c⟩ hi
  simp only at hi
  change H _ _ [(1, ptr b1), (3, .slice A n c), (4, .slice A20 5 c20), (5, num (i : Int))] (osl 5 A n c (([2] ++ numsB (m.nums.take i)).map u8v) :: osl 3 A20 5 c20 (m.nums.map num) :: blk b1 (m.cells a) 25 :: cs) _
  have q0 : (numsB (m.nums.take i)).length ≤ (numsB m.nums).length := flat_take_le _ _ _
  refine H.fact (fun w hw => Own.len (osl_reads (.head _)) hw) fun ⟨nf0, nf1, nf2⟩ => ?_
  simp only [List.length_map, List.length_append, numB_len, txtB_len, List.length_cons, List.length_nil] at nf0
  refine H.seq ?_
  refine H.seq ?_
  refine H.region ?_
  refine Ops.quiet (Qt.move rfl) rfl ?_
  refine Ops.quiet (Qt.lss rfl rfl) rfl ?_
  refine Ops.nil ?_
  refine H.then_normal ?_
  refine H.cond rfl (fun h22 => ?_) (fun h22 => ?_)
  · try simp only [decide_eq_true_eq, decide_eq_false_iff_not, beq_iff_eq, beq_eq_false_iff_ne, bne_iff_ne, ne_eq, Bool.not_eq_true', Bool.not_eq_false', bne_eq_false_iff_eq, Bool.not_eq_eq_eq_not, Bool.not_true, Bool.not_false] at h22
    refine H.skip ?_
    refine H.then_normal ?_
    refine H.seq ?_
    refine H.block ?_
    have hi2 : i < m.nums.length := by show i < 5; omega
    have hin := hg.nums _ (getD_mem 0 hi2)
    have hin' : 0 ≤ m.nums.getD (i : Int).toNat 0 ∧ m.nums.getD (i : Int).toNat 0 ≤ 1099511627776 := hin
    have hi3 : (i : Int).toNat < m.nums.length := hi2
    refine H.region ?_
    refine Ops.quiet (Qt.move rfl) rfl ?_
    refine Ops.quiet (Qt.move rfl) rfl ?_
    refine Ops.quiet (Qt.move rfl) rfl ?_
    refine Ops.quiet (Qt.indexAddr rfl rfl (tk rfl) (tk rfl) rfl (osl_reads (.tail _ (.head _))) (by omega) (by omega)) rfl ?_
    refine Ops.quiet (Qt.load_map (0 : Int) rfl (tk rfl) rfl (osl_reads (.tail _ (.head _))) (by exact hi3)) rfl ?_
    refine Ops.eff (Ef.call (fok fab_all rfl Tryz.func25 rfl) rfl (spec_rnum w0 (m.nums.getD (i : Int).toNat 0) 6 hin'.1 (by omega) (by omega) _)) rfl ?_
    rintro _ _ ⟨A30, c30, rfl, rfl⟩
    refine Ops.eff (Ef.append2 (f := u8v) rfl rfl (tk rfl) (tk rfl) rfl (zk rfl) (by repeat (first | assumption | exact Reads.of_head | apply Reads.tail)) (by intro _ _; repeat (first | exact Upd.head | apply Upd.tail)) (fun _ => rfl) (by dsimp only; omega) (by simp only [maxLen]; omega)) rfl ?_
    rintro _ _ ⟨A31, c31, rfl, rfl⟩
    refine Ops.quiet (Qt.assign rfl) rfl ?_
    refine Ops.nil ?_
    refine H.blk_normal ?_
    refine H.then_normal ?_
    refine H.region ?_
    refine Ops.quiet (Qt.move rfl) rfl ?_
    refine Ops.quiet (Qt.addk rfl rfl (by first | exact IntWalk.i64_in _ (by omega) | exact IntWalk.u8_in _ (by omega) | exact IntWalk.u64_in _ (by omega) | exact IntWalk.u32_in _ (by omega) | exact IntWalk.u16_in _ (by omega))) rfl ?_
    refine Ops.quiet (Qt.assign rfl) rfl ?_
    refine Ops.nil ?_
    refine H.then_normal ?_
    refine H.round (i + 1, A31, n + 6, c31) (by show i + 1 ≤ 5; omega) (by simp only []; omega) (by repeat (first | exact trivial | refine ⟨rfl, ?_⟩)) (fun w hw => ?_)
    have e : [2] ++ numsB (m.nums.take (i + 1)) = ([2] ++ numsB (m.nums.take i)) ++ numB 6 (m.nums.getD i 0).toNat := by rw [numsB, flat_take_succ _ 0 hi2, ← List.append_assoc]; rfl
    show Own w0 w (osl 5 A31 (n + 6) c31 (([2] ++ numsB (m.nums.take (i + 1))).map u8v) :: osl 3 A20 5 c20 (m.nums.map num) :: blk b1 (m.cells a) 25 :: cs)
    rw [e]
    exact hw.sub (by repeat (first | exact List.Sublist.refl _ | exact List.nil_sublist _ | apply List.Sublist.cons_cons | apply List.Sublist.cons))
  · try simp only [decide_eq_true_eq, decide_eq_false_iff_not, beq_iff_eq, beq_eq_false_iff_ne, bne_iff_ne, ne_eq, Bool.not_eq_true', Bool.not_eq_false', bne_eq_false_iff_eq, Bool.not_eq_eq_eq_not, Bool.not_true, Bool.not_false] at h22
    refine H.exit ?_
    refine H.then_exit ?_
    refine H.then_exit ?_
    refine H.blk_hit ?_
    refine H.then_normal ?_
    refine H.seq ?_
    have e1 : m.nums.take i = m.nums := List.take_of_length_le (by show 5 ≤ i; omega)
    rw [e1] at nf0 ⊢
    refine H.region ?_
    refine Ops.quiet (Qt.move rfl) rfl ?_
    refine Ops.quiet (Qt.fieldAddr rfl (tk rfl) rfl) rfl ?_
    refine Ops.quiet (Qt.load rfl (tk rfl) rfl (by repeat (first | exact List.Mem.head _ | apply List.Mem.tail)) (by rfl)) rfl ?_
    refine Ops.eff (Ef.call (fok fab_all rfl Tryz.func26 rfl) rfl (spec_rtxt w0 m.frm hf _)) rfl ?_
    rintro _ _ ⟨A35, c35, rfl, rfl⟩
    have hfl := txtB_len m.frm
    refine Ops.eff (Ef.append2 (f := u8v) rfl rfl (tk rfl) (tk rfl) rfl (zk rfl) (by repeat (first | assumption | exact Reads.of_head | apply Reads.tail)) (by intro _ _; repeat (first | exact Upd.head | apply Upd.tail)) (fun _ => rfl) (by dsimp only; omega) (by simp only [maxLen]; omega)) rfl ?_
    rintro _ _ ⟨A36, c36, rfl, rfl⟩
    refine Ops.quiet (Qt.assign rfl) rfl ?_
    refine Ops.nil ?_
    refine H.then_normal ?_
    refine H.seq ?_
    refine H.conv (cs' := osl 5 A36 (n + (txtB m.frm).length) c36 ((([2] ++ numsB m.nums) ++ txtB m.frm).map u8v) :: blk b1 (m.cells a) 25 :: cs) (fun w hw => hw.sub (by repeat (first | exact List.Sublist.refl _ | exact List.nil_sublist _ | apply List.Sublist.cons_cons | apply List.Sublist.cons))) ?_
    refine H.fact (fun w hw => Own.len (osl_reads (.head _)) hw) fun ⟨of0, of1, of2⟩ => ?_
    simp only [List.length_map, List.length_append, numB_len, txtB_len, List.length_cons, List.length_nil] at of0
    refine H.region ?_
    refine Ops.quiet (Qt.move rfl) rfl ?_
    refine Ops.quiet (Qt.fieldAddr rfl (tk rfl) rfl) rfl ?_
    refine Ops.quiet (Qt.load rfl (tk rfl) rfl (by repeat (first | exact List.Mem.head _ | apply List.Mem.tail)) (by rfl)) rfl ?_
    refine Ops.quiet (Qt.len_sl (ats := #[]) rfl (tk rfl)) rfl ?_
    refine Ops.eff (Ef.call (fok fab_all rfl Tryz.func25 rfl) rfl (spec_rnum w0 (a.r.n : Int) 2 (by omega) (by omega) (by omega) _)) rfl ?_
    rintro _ _ ⟨A41, c41, rfl, rfl⟩
    refine Ops.eff (Ef.append2 (f := u8v) rfl rfl (tk rfl) (tk rfl) rfl (zk rfl) (by repeat (first | assumption | exact Reads.of_head | apply Reads.tail)) (by intro _ _; repeat (first | exact Upd.head | apply Upd.tail)) (fun _ => rfl) (by dsimp only; omega) (by simp only [maxLen]; omega)) rfl ?_
    rintro _ _ ⟨A42, c42, rfl, rfl⟩
    refine Ops.quiet (Qt.assign rfl) rfl ?_
    refine Ops.nil ?_
    refine H.then_normal ?_
    refine H.seq ?_
    refine H.seq ?_
    have e2 : (a.r.n : Int).toNat = m.rcpts.length := by omega
    rw [e2]
    refine H.region ?_
    refine Ops.quiet (Qt.assign rfl) rfl ?_
    refine Ops.nil ?_
    refine H.then_normal ?_
    refine H.block ?_
    refine H.loop (X := Nat × Option Addr × Nat × Nat) (fun p => [(1, ptr b1), (3, .slice p.2.1 p.2.2.1 p.2.2.2), (6, num p.1)]) (fun p => osl 5 p.2.1 p.2.2.1 p.2.2.2 ((([2] ++ numsB m.nums ++ txtB m.frm ++ numB 2 m.rcpts.length) ++ rcB (m.rcpts.take p.1)).map u8v) :: blk b1 (m.cells a) 25 :: cs) (fun p => p.1 ≤ a.r.n) (fun p => a.r.n - p.1) (0, A42, _, c42) (Nat.zero_le _) (by repeat (first | exact trivial | refine ⟨rfl, ?_⟩)) (fun w hw => by
      have e : ([2] ++ numsB m.nums ++ txtB m.frm ++ numB 2 m.rcpts.length) ++ rcB (m.rcpts.take 0) = [2] ++ numsB m.nums ++ txtB m.frm ++ numB 2 m.rcpts.length := List.append_nil _
      show Own w0 w (osl 5 A42 _ c42 ((([2] ++ numsB m.nums ++ txtB m.frm ++ numB 2 m.rcpts.length) ++ rcB (m.rcpts.take 0)).map u8v) :: blk b1 (m.cells a) 25 :: cs)
      rw [e]
      exact hw.tail) ?_
    rintro ⟨i, A, n, c⟩ hi
    simp only at hi
    change H _ _ [(1, ptr b1), (3, .slice A n c), (6, num (i : Int))] (osl 5 A n c ((([2] ++ numsB m.nums ++ txtB m.frm ++ numB 2 m.rcpts.length) ++ rcB (m.rcpts.take i)).map u8v) :: blk b1 (m.cells a) 25 :: cs) _
    have q1 : (rcB (m.rcpts.take i)).length ≤ (rcB m.rcpts).length := flat_take_le _ _ _
    refine H.fact (fun w hw => Own.len (osl_reads (.head _)) hw) fun ⟨mf0, mf1, mf2⟩ => ?_
    simp only [List.length_map, List.length_append, numB_len, txtB_len, List.length_cons, List.length_nil] at mf0
    refine H.seq ?_
    refine H.seq ?_
    refine H.region ?_
    refine Ops.quiet (Qt.move rfl) rfl ?_
    refine Ops.quiet (Qt.fieldAddr rfl (tk rfl) rfl) rfl ?_
    refine Ops.quiet (Qt.load rfl (tk rfl) rfl (by repeat (first | exact List.Mem.head _ | apply List.Mem.tail)) (by rfl)) rfl ?_
    refine Ops.quiet (Qt.len_sl (ats := #[]) rfl (tk rfl)) rfl ?_
    refine Ops.quiet (Qt.lss rfl rfl) rfl ?_
    refine Ops.nil ?_
    refine H.then_normal ?_
    refine H.cond rfl (fun h47 => ?_) (fun h47 => ?_)
    · try simp only [decide_eq_true_eq, decide_eq_false_iff_not, beq_iff_eq, beq_eq_false_iff_ne, bne_iff_ne, ne_eq, Bool.not_eq_true', Bool.not_eq_false', bne_eq_false_iff_eq, Bool.not_eq_eq_eq_not, Bool.not_true, Bool.not_false] at h47
      refine H.skip ?_
      refine H.then_normal ?_
      refine H.seq ?_
      refine H.block ?_
      have hi2 : i < m.rcpts.length := by omega
      have hsl := hb.r _ (getD_mem [] hi2)
      have htl := txtB_len (m.rcpts.getD (i : Int).toNat [])
      have hsl' : (m.rcpts.getD (i : Int).toNat []).length ≤ 1000000 := hsl
      refine H.region ?_
      refine Ops.quiet (Qt.move rfl) rfl ?_
      refine Ops.quiet (Qt.fieldAddr rfl (tk rfl) rfl) rfl ?_
      refine Ops.quiet (Qt.load rfl (tk rfl) rfl (by repeat (first | exact List.Mem.head _ | apply List.Mem.tail)) (by rfl)) rfl ?_
      refine Ops.quiet (Qt.move rfl) rfl ?_
      refine Ops.quiet (Qt.indexAddr rfl rfl (tk rfl) (tk rfl) rfl (by repeat (first | assumption | exact Reads.of_head | apply Reads.tail)) (by omega) (by omega)) rfl ?_
      refine Ops.quiet (Qt.load_map ([] : List UInt8) rfl (tk rfl) rfl (by repeat (first | assumption | exact Reads.of_head | apply Reads.tail)) (by omega)) rfl ?_
      refine Ops.eff (Ef.call (fok fab_all rfl Tryz.func26 rfl) rfl (spec_rtxt w0 (m.rcpts.getD (i : Int).toNat []) hsl' _)) rfl ?_
      rintro _ _ ⟨A56, c56, rfl, rfl⟩
      refine Ops.eff (Ef.append2 (f := u8v) rfl rfl (tk rfl) (tk rfl) rfl (zk rfl) (by repeat (first | assumption | exact Reads.of_head | apply Reads.tail)) (by intro _ _; repeat (first | exact Upd.head | apply Upd.tail)) (fun _ => rfl) (by dsimp only; omega) (by simp only [maxLen]; omega)) rfl ?_
      rintro _ _ ⟨A57, c57, rfl, rfl⟩
      refine Ops.quiet (Qt.assign rfl) rfl ?_
      refine Ops.nil ?_
      refine H.blk_normal ?_
      refine H.then_normal ?_
      refine H.region ?_
      refine Ops.quiet (Qt.move rfl) rfl ?_
      refine Ops.quiet (Qt.addk rfl rfl (by first | exact IntWalk.i64_in _ (by omega) | exact IntWalk.u8_in _ (by omega) | exact IntWalk.u64_in _ (by omega) | exact IntWalk.u32_in _ (by omega) | exact IntWalk.u16_in _ (by omega))) rfl ?_
      refine Ops.quiet (Qt.assign rfl) rfl ?_
      refine Ops.nil ?_
      refine H.then_normal ?_
      refine H.round (i + 1, A57, _, c57) (by show i + 1 ≤ a.r.n; omega) (by simp only []; omega) (by repeat (first | exact trivial | refine ⟨rfl, ?_⟩)) (fun w hw => ?_)
      have e : ([2] ++ numsB m.nums ++ txtB m.frm ++ numB 2 m.rcpts.length) ++ rcB (m.rcpts.take (i + 1)) = (([2] ++ numsB m.nums ++ txtB m.frm ++ numB 2 m.rcpts.length) ++ rcB (m.rcpts.take i)) ++ txtB (m.rcpts.getD i []) := by rw [rcB_succ (l := m.rcpts) hi2, ← List.append_assoc]
      show Own w0 w (osl 5 A57 _ c57 ((([2] ++ numsB m.nums ++ txtB m.frm ++ numB 2 m.rcpts.length) ++ rcB (m.rcpts.take (i + 1))).map u8v) :: blk b1 (m.cells a) 25 :: cs)
      rw [e]
      exact hw.tail
    · try simp only [decide_eq_true_eq, decide_eq_false_iff_not, beq_iff_eq, beq_eq_false_iff_ne, bne_iff_ne, ne_eq, Bool.not_eq_true', Bool.not_eq_false', bne_eq_false_iff_eq, Bool.not_eq_eq_eq_not, Bool.not_true, Bool.not_false] at h47
      refine H.exit ?_
      refine H.then_exit ?_
      refine H.then_exit ?_
      refine H.blk_hit ?_
      refine H.then_normal ?_
      refine H.seq ?_
      have e3 : m.rcpts.take i = m.rcpts := List.take_of_length_le (by omega)
      rw [e3] at mf0 ⊢
      refine H.region ?_
      refine Ops.quiet (Qt.move rfl) rfl ?_
      refine Ops.quiet (Qt.fieldAddr rfl (tk rfl) rfl) rfl ?_
      refine Ops.quiet (Qt.load rfl (tk rfl) rfl (by repeat (first | exact List.Mem.head _ | apply List.Mem.tail)) (by rfl)) rfl ?_
      refine Ops.quiet (Qt.len_sl (ats := #[]) rfl (tk rfl)) rfl ?_
      refine Ops.eff (Ef.call (fok fab_all rfl Tryz.func25 rfl) rfl (spec_rnum w0 (a.m.n : Int) 2 (by omega) (by omega) (by omega) _)) rfl ?_
      rintro _ _ ⟨A62, c62, rfl, rfl⟩
      refine Ops.eff (Ef.append2 (f := u8v) rfl rfl (tk rfl) (tk rfl) rfl (zk rfl) (by repeat (first | assumption | exact Reads.of_head | apply Reads.tail)) (by intro _ _; repeat (first | exact Upd.head | apply Upd.tail)) (fun _ => rfl) (by dsimp only; omega) (by simp only [maxLen]; omega)) rfl ?_
      rintro _ _ ⟨A63, c63, rfl, rfl⟩
      refine Ops.quiet (Qt.assign rfl) rfl ?_
      refine Ops.nil ?_
      refine H.then_normal ?_
      refine H.seq ?_
      refine H.seq ?_
      have e4 : (a.m.n : Int).toNat = m.marks.length := by omega
      rw [e4]
      refine H.region ?_
      refine Ops.quiet (Qt.assign rfl) rfl ?_
      refine Ops.nil ?_
      refine H.then_normal ?_
      refine H.block ?_
      refine H.loop (X := Nat × Option Addr × Nat × Nat) (fun p => [(1, ptr b1), (3, .slice p.2.1 p.2.2.1 p.2.2.2), (7, num p.1)]) (fun p => osl 5 p.2.1 p.2.2.1 p.2.2.2 ((([2] ++ numsB m.nums ++ txtB m.frm ++ numB 2 m.rcpts.length ++ rcB m.rcpts ++ numB 2 m.marks.length) ++ mkB (m.marks.take p.1)).map u8v) :: blk b1 (m.cells a) 25 :: cs) (fun p => p.1 ≤ a.m.n) (fun p => a.m.n - p.1) (0, A63, _, c63) (Nat.zero_le _) (by repeat (first | exact trivial | refine ⟨rfl, ?_⟩)) (fun w hw => by
        have e : ([2] ++ numsB m.nums ++ txtB m.frm ++ numB 2 m.rcpts.length ++ rcB m.rcpts ++ numB 2 m.marks.length) ++ mkB (m.marks.take 0) = [2] ++ numsB m.nums ++ txtB m.frm ++ numB 2 m.rcpts.length ++ rcB m.rcpts ++ numB 2 m.marks.length := List.append_nil _
        show Own w0 w (osl 5 A63 _ c63 ((([2] ++ numsB m.nums ++ txtB m.frm ++ numB 2 m.rcpts.length ++ rcB m.rcpts ++ numB 2 m.marks.length) ++ mkB (m.marks.take 0)).map u8v) :: blk b1 (m.cells a) 25 :: cs)
        rw [e]
        exact hw.tail) ?_
      rintro ⟨i, A, n, c⟩ hi
      simp only at hi
      change H _ _ [(1, ptr b1), (3, .slice A n c), (7, num (i : Int))] (osl 5 A n c ((([2] ++ numsB m.nums ++ txtB m.frm ++ numB 2 m.rcpts.length ++ rcB m.rcpts ++ numB 2 m.marks.length) ++ mkB (m.marks.take i)).map u8v) :: blk b1 (m.cells a) 25 :: cs) _
      have q2 : (mkB (m.marks.take i)).length ≤ (mkB m.marks).length := flat_take_le _ _ _
      refine H.fact (fun w hw => Own.len (osl_reads (.head _)) hw) fun ⟨pf0, pf1, pf2⟩ => ?_
      simp only [List.length_map, List.length_append, numB_len, txtB_len, List.length_cons, List.length_nil] at pf0
      refine H.seq ?_
      refine H.seq ?_
      refine H.region ?_
      refine Ops.quiet (Qt.move rfl) rfl ?_
      refine Ops.quiet (Qt.fieldAddr rfl (tk rfl) rfl) rfl ?_
      refine Ops.quiet (Qt.load rfl (tk rfl) rfl (by repeat (first | exact List.Mem.head _ | apply List.Mem.tail)) (by rfl)) rfl ?_
      refine Ops.quiet (Qt.len_sl (ats := #[]) rfl (tk rfl)) rfl ?_
      refine Ops.quiet (Qt.lss rfl rfl) rfl ?_
      refine Ops.nil ?_
      refine H.then_normal ?_
      refine H.cond rfl (fun h68 => ?_) (fun h68 => ?_)
      · try simp only [decide_eq_true_eq, decide_eq_false_iff_not, beq_iff_eq, beq_eq_false_iff_ne, bne_iff_ne, ne_eq, Bool.not_eq_true', Bool.not_eq_false', bne_eq_false_iff_eq, Bool.not_eq_eq_eq_not, Bool.not_true, Bool.not_false] at h68
        refine H.skip ?_
        refine H.then_normal ?_
        refine H.seq ?_
        refine H.block ?_
        have hi2 : i < m.marks.length := by omega
        have hsl := hg.mks _ (getD_mem 0 hi2)
        have hv : Value.int .u8 (IntKind.u8.wrap (m.marks.getD (i : Int).toNat 0)) = u8v (byteN (m.marks.getD i 0).toNat) := byteN_u8 (x := m.marks.getD i 0) hsl.1
        refine H.region ?_
        refine Ops.quiet (Qt.move rfl) rfl ?_
        refine Ops.quiet (Qt.fieldAddr rfl (tk rfl) rfl) rfl ?_
        refine Ops.quiet (Qt.load rfl (tk rfl) rfl (by repeat (first | exact List.Mem.head _ | apply List.Mem.tail)) (by rfl)) rfl ?_
        refine Ops.quiet (Qt.move rfl) rfl ?_
        refine Ops.quiet (Qt.indexAddr rfl rfl (tk rfl) (tk rfl) rfl (by repeat (first | assumption | exact Reads.of_head | apply Reads.tail)) (by omega) (by omega)) rfl ?_
        refine Ops.quiet (Qt.load_map (0 : Int) rfl (tk rfl) rfl (by repeat (first | assumption | exact Reads.of_head | apply Reads.tail)) (by omega)) rfl ?_
        refine Ops.quiet (Qt.cast (Qt.conv_int rfl (tk rfl) (tk rfl)) hv) rfl ?_
        refine Ops.eff (Ef.buildSlice (tk rfl) (tk rfl) rfl (zk rfl) rfl rfl rfl (by repeat (first | exact ones_nil | refine ones_cons rfl ?_))) rfl ?_
        rintro _ _ ⟨A78, c78, rfl, rfl⟩
        refine Ops.eff (Ef.append1 (f := u8v) (b := byteN (m.marks.getD i 0).toNat) rfl rfl (tk rfl) (tk rfl) rfl (zk rfl) (by repeat (first | assumption | exact Reads.of_head | apply Reads.tail)) (by intro _ _; repeat (first | exact Upd.head | apply Upd.tail)) (fun _ => rfl) (by dsimp only; omega) (by simp only [maxLen]; omega)) rfl ?_
        rintro _ _ ⟨A79, c79, rfl, rfl⟩
        refine Ops.quiet (Qt.assign rfl) rfl ?_
        refine Ops.nil ?_
        refine H.blk_normal ?_
        refine H.then_normal ?_
        refine H.region ?_
        refine Ops.quiet (Qt.move rfl) rfl ?_
        refine Ops.quiet (Qt.addk rfl rfl (by first | exact IntWalk.i64_in _ (by omega) | exact IntWalk.u8_in _ (by omega) | exact IntWalk.u64_in _ (by omega) | exact IntWalk.u32_in _ (by omega) | exact IntWalk.u16_in _ (by omega))) rfl ?_
        refine Ops.quiet (Qt.assign rfl) rfl ?_
        refine Ops.nil ?_
        refine H.then_normal ?_
        refine H.round (i + 1, A79, _, c79) (by show i + 1 ≤ a.m.n; omega) (by simp only []; omega) (by repeat (first | exact trivial | refine ⟨rfl, ?_⟩)) (fun w hw => ?_)
        have e : ([2] ++ numsB m.nums ++ txtB m.frm ++ numB 2 m.rcpts.length ++ rcB m.rcpts ++ numB 2 m.marks.length) ++ mkB (m.marks.take (i + 1)) = (([2] ++ numsB m.nums ++ txtB m.frm ++ numB 2 m.rcpts.length ++ rcB m.rcpts ++ numB 2 m.marks.length) ++ mkB (m.marks.take i)) ++ [byteN (m.marks.getD i 0).toNat] := by rw [mkB, flat_take_succ _ 0 hi2, ← List.append_assoc]; rfl
        show Own w0 w (osl 5 A79 _ c79 ((([2] ++ numsB m.nums ++ txtB m.frm ++ numB 2 m.rcpts.length ++ rcB m.rcpts ++ numB 2 m.marks.length) ++ mkB (m.marks.take (i + 1))).map u8v) :: blk b1 (m.cells a) 25 :: cs)
        rw [e]
        exact hw.tail
      · try simp only [decide_eq_true_eq, decide_eq_false_iff_not, beq_iff_eq, beq_eq_false_iff_ne, bne_iff_ne, ne_eq, Bool.not_eq_true', Bool.not_eq_false', bne_eq_false_iff_eq, Bool.not_eq_eq_eq_not, Bool.not_true, Bool.not_false] at h68
        refine H.exit ?_
        refine H.then_exit ?_
        refine H.then_exit ?_
        refine H.blk_hit ?_
        refine H.then_normal ?_
        refine H.seq ?_
        have e5 : m.marks.take i = m.marks := List.take_of_length_le (by omega)
        rw [e5] at pf0 ⊢
        refine H.region ?_
        refine Ops.quiet (Qt.move rfl) rfl ?_
        refine Ops.quiet (Qt.fieldAddr rfl (tk rfl) rfl) rfl ?_
        refine Ops.quiet (Qt.load rfl (tk rfl) rfl (by repeat (first | exact List.Mem.head _ | apply List.Mem.tail)) (by rfl)) rfl ?_
        refine Ops.quiet (Qt.len_sl (ats := #[]) rfl (tk rfl)) rfl ?_
        refine Ops.eff (Ef.call (fok fab_all rfl Tryz.func25 rfl) rfl (spec_rnum w0 (a.b.n : Int) 4 (by omega) (by omega) (by omega) _)) rfl ?_
        rintro _ _ ⟨A84, c84, rfl, rfl⟩
        refine Ops.eff (Ef.append2 (f := u8v) rfl rfl (tk rfl) (tk rfl) rfl (zk rfl) (by repeat (first | assumption | exact Reads.of_head | apply Reads.tail)) (by intro _ _; repeat (first | exact Upd.head | apply Upd.tail)) (fun _ => rfl) (by dsimp only; omega) (by simp only [maxLen]; omega)) rfl ?_
        rintro _ _ ⟨A85, c85, rfl, rfl⟩
        refine Ops.quiet (Qt.assign rfl) rfl ?_
        refine Ops.nil ?_
        refine H.then_normal ?_
        refine H.seq ?_
        refine H.seq ?_
        have e6 : (a.b.n : Int).toNat = m.body.length := by omega
        rw [e6]
        refine H.region ?_
        refine Ops.quiet (Qt.assign rfl) rfl ?_
        refine Ops.nil ?_
        refine H.then_normal ?_
        refine H.block ?_
        refine H.loop (X := Nat × Option Addr × Nat × Nat) (fun p => [(1, ptr b1), (3, .slice p.2.1 p.2.2.1 p.2.2.2), (8, num p.1)]) (fun p => osl 5 p.2.1 p.2.2.1 p.2.2.2 ((([2] ++ numsB m.nums ++ txtB m.frm ++ numB 2 m.rcpts.length ++ rcB m.rcpts ++ numB 2 m.marks.length ++ mkB m.marks ++ numB 4 m.body.length) ++ rcB (m.body.take p.1)).map u8v) :: blk b1 (m.cells a) 25 :: cs) (fun p => p.1 ≤ a.b.n) (fun p => a.b.n - p.1) (0, A85, _, c85) (Nat.zero_le _) (by repeat (first | exact trivial | refine ⟨rfl, ?_⟩)) (fun w hw => by
          have e : ([2] ++ numsB m.nums ++ txtB m.frm ++ numB 2 m.rcpts.length ++ rcB m.rcpts ++ numB 2 m.marks.length ++ mkB m.marks ++ numB 4 m.body.length) ++ rcB (m.body.take 0) = [2] ++ numsB m.nums ++ txtB m.frm ++ numB 2 m.rcpts.length ++ rcB m.rcpts ++ numB 2 m.marks.length ++ mkB m.marks ++ numB 4 m.body.length := List.append_nil _
          show Own w0 w (osl 5 A85 _ c85 ((([2] ++ numsB m.nums ++ txtB m.frm ++ numB 2 m.rcpts.length ++ rcB m.rcpts ++ numB 2 m.marks.length ++ mkB m.marks ++ numB 4 m.body.length) ++ rcB (m.body.take 0)).map u8v) :: blk b1 (m.cells a) 25 :: cs)
          rw [e]
          exact hw.tail) ?_
        rintro ⟨i, A, n, c⟩ hi
        simp only at hi
        change H _ _ [(1, ptr b1), (3, .slice A n c), (8, num (i : Int))] (osl 5 A n c ((([2] ++ numsB m.nums ++ txtB m.frm ++ numB 2 m.rcpts.length ++ rcB m.rcpts ++ numB 2 m.marks.length ++ mkB m.marks ++ numB 4 m.body.length) ++ rcB (m.body.take i)).map u8v) :: blk b1 (m.cells a) 25 :: cs) _
        have q3 : (rcB (m.body.take i)).length ≤ (rcB m.body).length := flat_take_le _ _ _
        refine H.fact (fun w hw => Own.len (osl_reads (.head _)) hw) fun ⟨qf0, qf1, qf2⟩ => ?_
        simp only [List.length_map, List.length_append, numB_len, txtB_len, List.length_cons, List.length_nil] at qf0
        refine H.seq ?_
        refine H.seq ?_
        refine H.region ?_
        refine Ops.quiet (Qt.move rfl) rfl ?_
        refine Ops.quiet (Qt.fieldAddr rfl (tk rfl) rfl) rfl ?_
        refine Ops.quiet (Qt.load rfl (tk rfl) rfl (by repeat (first | exact List.Mem.head _ | apply List.Mem.tail)) (by rfl)) rfl ?_
        refine Ops.quiet (Qt.len_sl (ats := #[]) rfl (tk rfl)) rfl ?_
        refine Ops.quiet (Qt.lss rfl rfl) rfl ?_
        refine Ops.nil ?_
        refine H.then_normal ?_
        refine H.cond rfl (fun h90 => ?_) (fun h90 => ?_)
        · try simp only [decide_eq_true_eq, decide_eq_false_iff_not, beq_iff_eq, beq_eq_false_iff_ne, bne_iff_ne, ne_eq, Bool.not_eq_true', Bool.not_eq_false', bne_eq_false_iff_eq, Bool.not_eq_eq_eq_not, Bool.not_true, Bool.not_false] at h90
          refine H.skip ?_
          refine H.then_normal ?_
          refine H.seq ?_
          refine H.block ?_
          have hi2 : i < m.body.length := by omega
          have hsl := hb.b _ (getD_mem [] hi2)
          have htl := txtB_len (m.body.getD (i : Int).toNat [])
          have hsl' : (m.body.getD (i : Int).toNat []).length ≤ 1000000 := hsl
          refine H.region ?_
          refine Ops.quiet (Qt.move rfl) rfl ?_
          refine Ops.quiet (Qt.fieldAddr rfl (tk rfl) rfl) rfl ?_
          refine Ops.quiet (Qt.load rfl (tk rfl) rfl (by repeat (first | exact List.Mem.head _ | apply List.Mem.tail)) (by rfl)) rfl ?_
          refine Ops.quiet (Qt.move rfl) rfl ?_
          refine Ops.quiet (Qt.indexAddr rfl rfl (tk rfl) (tk rfl) rfl (by repeat (first | assumption | exact Reads.of_head | apply Reads.tail)) (by omega) (by omega)) rfl ?_
          refine Ops.quiet (Qt.load_map ([] : List UInt8) rfl (tk rfl) rfl (by repeat (first | assumption | exact Reads.of_head | apply Reads.tail)) (by omega)) rfl ?_
          refine Ops.eff (Ef.call (fok fab_all rfl Tryz.func26 rfl) rfl (spec_rtxt w0 (m.body.getD (i : Int).toNat []) hsl' _)) rfl ?_
          rintro _ _ ⟨A99, c99, rfl, rfl⟩
          refine Ops.eff (Ef.append2 (f := u8v) rfl rfl (tk rfl) (tk rfl) rfl (zk rfl) (by repeat (first | assumption | exact Reads.of_head | apply Reads.tail)) (by intro _ _; repeat (first | exact Upd.head | apply Upd.tail)) (fun _ => rfl) (by dsimp only; omega) (by simp only [maxLen]; omega)) rfl ?_
          rintro _ _ ⟨A100, c100, rfl, rfl⟩
          refine Ops.quiet (Qt.assign rfl) rfl ?_
          refine Ops.nil ?_
          refine H.blk_normal ?_
          refine H.then_normal ?_
          refine H.region ?_
          refine Ops.quiet (Qt.move rfl) rfl ?_
          refine Ops.quiet (Qt.addk rfl rfl (by first | exact IntWalk.i64_in _ (by omega) | exact IntWalk.u8_in _ (by omega) | exact IntWalk.u64_in _ (by omega) | exact IntWalk.u32_in _ (by omega) | exact IntWalk.u16_in _ (by omega))) rfl ?_
          refine Ops.quiet (Qt.assign rfl) rfl ?_
          refine Ops.nil ?_
          refine H.then_normal ?_
          refine H.round (i + 1, A100, _, c100) (by show i + 1 ≤ a.b.n; omega) (by simp only []; omega) (by repeat (first | exact trivial | refine ⟨rfl, ?_⟩)) (fun w hw => ?_)
          have e : ([2] ++ numsB m.nums ++ txtB m.frm ++ numB 2 m.rcpts.length ++ rcB m.rcpts ++ numB 2 m.marks.length ++ mkB m.marks ++ numB 4 m.body.length) ++ rcB (m.body.take (i + 1)) = (([2] ++ numsB m.nums ++ txtB m.frm ++ numB 2 m.rcpts.length ++ rcB m.rcpts ++ numB 2 m.marks.length ++ mkB m.marks ++ numB 4 m.body.length) ++ rcB (m.body.take i)) ++ txtB (m.body.getD i []) := by rw [rcB_succ (l := m.body) hi2, ← List.append_assoc]
          show Own w0 w (osl 5 A100 _ c100 ((([2] ++ numsB m.nums ++ txtB m.frm ++ numB 2 m.rcpts.length ++ rcB m.rcpts ++ numB 2 m.marks.length ++ mkB m.marks ++ numB 4 m.body.length) ++ rcB (m.body.take (i + 1))).map u8v) :: blk b1 (m.cells a) 25 :: cs)
          rw [e]
          exact hw.tail
        · try simp only [decide_eq_true_eq, decide_eq_false_iff_not, beq_iff_eq, beq_eq_false_iff_ne, bne_iff_ne, ne_eq, Bool.not_eq_true', Bool.not_eq_false', bne_eq_false_iff_eq, Bool.not_eq_eq_eq_not, Bool.not_true, Bool.not_false] at h90
          refine H.exit ?_
          refine H.then_exit ?_
          refine H.then_exit ?_
          refine H.blk_hit ?_
          refine H.then_normal ?_
          refine H.seq ?_
          refine H.region ?_
          refine Ops.quiet (Qt.move rfl) rfl ?_
          refine Ops.quiet (Qt.assign rfl) rfl ?_
          refine Ops.nil ?_
          refine H.then_normal ?_
          refine H.ret ?_
          have e7 : m.body.take i = m.body := List.take_of_length_le (by omega)
          have e8 : ([2] ++ numsB m.nums ++ txtB m.frm ++ numB 2 m.rcpts.length ++ rcB m.rcpts ++ numB 2 m.marks.length ++ mkB m.marks ++ numB 4 m.body.length) ++ rcB m.body = bytesM m := rfl
          rw [e7, e8]
          refine (H.ends_to (cs' := osl 5 A n c ((bytesM m).map u8v) :: cs) rfl (.cons (.tmp rfl) .nil) (fun w hw => ?_) ?_)
          · exact hw.sub (by repeat (first | exact List.Sublist.refl _ | exact List.nil_sublist _ | apply List.Sublist.cons_cons | apply List.Sublist.cons))
          · exact ⟨A, n, c, rfl, rfl⟩
end Go.Proofs.YtbglphpinhjfeaaGreatDoor
