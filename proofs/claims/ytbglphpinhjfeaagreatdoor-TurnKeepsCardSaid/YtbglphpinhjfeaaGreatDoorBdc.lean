/- Messages as bytes: bin.Decode takes back what was written. -/
import Derived.Test.YtbglphpinhjfeaaGreatDoorBin
import Derived.Test.YtbglphpinhjfeaaGreatDoorEdc
namespace Go.Proofs.YtbglphpinhjfeaaGreatDoor
open Go Go.RowKit
set_option maxRecDepth 100000
set_option linter.unusedVariables false
set_option linter.unusedSimpArgs false
attribute [local irreducible] Go.wpList Go.Code.wp Go.Exit.then Go.Exit.inBlock Go.Exit.noGoto Ends blk osl oblk LoopI Own Spec
/-- From one slice to what is k bytes behind it, whatever else is owned. -/
def Adv (w0 : World) (A : Option Addr) (n c k : Nat) (A' : Option Addr) (n' c' : Nat) : Prop := ∀ (cs : List SProp) (l : Bs), Reads w0 cs A n c (l.map u8v) → k ≤ l.length → Reads w0 cs A' n' c' ((l.drop k).map u8v)
theorem Adv.trans {w0 : World} {A B D : Option Addr} {n c i n' c' j n2 c2 : Nat} (h1 : Adv w0 A n c i B n' c') (h2 : Adv w0 B n' c' j D n2 c2) : Adv w0 A n c (i + j) D n2 c2 := by
  intro cs l hr hk
  have := h2 cs (l.drop i) (h1 cs l hr (by omega)) (by rw [List.length_drop]; omega)
  rwa [List.drop_drop] at this
theorem Adv.app {w0 : World} {A B : Option Addr} {n c i n' c' : Nat} (h : Adv w0 A n c i B n' c') {cs : List SProp} {p r : Bs} (hr : Reads w0 cs A n c ((p ++ r).map u8v)) (hp : p.length = i) : Reads w0 cs B n' c' (r.map u8v) := by
  have := h cs (p ++ r) hr (by rw [List.length_append]; omega)
  rwa [← hp, List.drop_left] at this
theorem byteN_nat (n : Nat) : (byteN n).toNat = n % 256 := by
  simp only [byteN, UInt8.toNat_ofNat']; omega
theorem numB_at : ∀ (size v i : Nat), i < size → (numB size v).getD i 0 = byteN (v / 256 ^ (size - 1 - i))
  | 0, v, i, h => by omega
  | k + 1, v, 0, h => by simp [numB]
  | k + 1, v, i + 1, h => by
    have := numB_at k v i (by omega)
    have e : k + 1 - 1 - (i + 1) = k - 1 - i := by omega
    rw [e, ← this]
    simp [numB]
theorem pre_step {size v i : Nat} (h : i < size) : v / 256 ^ (size - (i + 1)) = v / 256 ^ (size - i) * 256 + v / 256 ^ (size - 1 - i) % 256 := by
  have e1 : size - (i + 1) = size - 1 - i := by omega
  have e2 : size - i = (size - 1 - i) + 1 := by omega
  rw [e1, e2, Nat.pow_succ, ← Nat.div_div_eq_div_mul]
  omega
theorem or_add {x b : Int} (h0 : 0 ≤ x) (h1 : x < 36028797018963968) (h2 : 0 ≤ b) (h3 : b < 256) :
    IntKind.i64.wrap ((BitVec.ofInt IntKind.i64.bits (IntKind.i64.wrap (x * 2 ^ (min (8 : Int).toNat IntKind.i64.bits))) ||| BitVec.ofInt IntKind.i64.bits b).toNat : Int) = x * 256 + b := by
  have e0 : (2 : Int) ^ (min (8 : Int).toNat IntKind.i64.bits) = 256 := by decide
  have e1 : IntKind.i64.wrap (x * 2 ^ (min (8 : Int).toNat IntKind.i64.bits)) = x * 256 := by rw [e0]; exact IntWalk.i64_in _ (by omega)
  rw [e1]
  obtain ⟨m, rfl⟩ : ∃ m : Nat, x = m := ⟨x.toNat, by omega⟩
  obtain ⟨k, rfl⟩ : ∃ k : Nat, b = k := ⟨b.toNat, by omega⟩
  have e2 : (BitVec.ofInt IntKind.i64.bits ((m : Int) * 256)).toNat = m * 256 := by
    show (BitVec.ofInt 64 ((m : Int) * 256)).toNat = _
    rw [BitVec.toNat_ofInt]; omega
  have e3 : (BitVec.ofInt IntKind.i64.bits (k : Int)).toNat = k := by
    show (BitVec.ofInt 64 (k : Int)).toNat = _
    rw [BitVec.toNat_ofInt]; omega
  rw [BitVec.toNat_or, e2, e3]
  have e4 : m * 256 ||| k = m * 256 + k := by
    have := Nat.shiftLeft_add_eq_or_of_lt (i := 8) (show k < 2 ^ 8 by omega) m
    rw [Nat.shiftLeft_eq] at this
    exact this.symm
  rw [e4]
  have : IntKind.i64.wrap ((m * 256 + k : Nat) : Int) = ((m * 256 + k : Nat) : Int) := IntWalk.i64_in _ (by omega)
  rw [this]
  omega
theorem take_val (A : Option Addr) (k : Nat) : Value.slice (cutA A (k : Int).toNat (0 : Int).toNat) ((k : Int).toNat - (0 : Int).toNat) ((k : Int).toNat - (0 : Int).toNat) = Value.slice A k k := by
  show Value.slice (cutA A k 0) k k = _
  rw [cutA_zero]
theorem spec_btake (w0 : World) (b : Nat) (l : Bs) (k : Nat) {A : Option Addr} {n c : Nat} (fr : List SProp) (hr : Reads w0 fr A n c (l.map u8v)) (hk : k ≤ l.length) :
    Spec Tryz.prog w0 64 [ptr b, num k] (blk b [.slice A n c, bol false] 78 :: fr) (fun v cs' => ∃ A' n' c', v = .slice A k k ∧ Adv w0 A n c k A' n' c' ∧ cs' = blk b [.slice A' n' c', bol false] 78 :: fr) := by
  refine Spec.of_body Tryz.func64 rfl Tryz.ntmps64 rfl ?_
  refine H.fact (fun w hw => (hr w hw.tail).facts) fun ⟨l1, l2, l3, l4⟩ => ?_
  simp only [List.length_map] at l1
  refine H.seq ?_
  refine H.region ?_
  refine Ops.quiet (Qt.assign rfl) rfl ?_
  refine Ops.nil ?_
  refine H.then_normal ?_
  refine H.seq ?_
  refine H.seq ?_
  refine H.region ?_
  refine Ops.quiet (Qt.move rfl) rfl ?_
  refine Ops.quiet (Qt.nilCheck rfl) rfl ?_
  refine Ops.quiet (Qt.fieldAddr rfl (tk rfl) rfl) rfl ?_
  refine Ops.quiet (Qt.load rfl (tk rfl) rfl (by repeat (first | exact List.Mem.head _ | apply List.Mem.tail)) (by rfl)) rfl ?_
  refine Ops.quiet (Qt.move rfl) rfl ?_
  refine Ops.guard_yes rfl rfl rfl rfl rfl ?_
  refine Ops.quiet (Qt.move rfl) rfl ?_
  refine Ops.guard_yes rfl rfl rfl rfl rfl ?_
  refine Ops.quiet (Qt.move rfl) rfl ?_
  refine Ops.guard_yes rfl rfl rfl rfl rfl ?_
  refine Ops.quiet (Qt.nilCheck rfl) rfl ?_
  refine Ops.guard_yes rfl rfl rfl rfl rfl ?_
  refine Ops.quiet (Qt.fieldAddr rfl (tk rfl) rfl) rfl ?_
  refine Ops.guard_yes rfl rfl rfl rfl rfl ?_
  refine Ops.quiet (Qt.load rfl (tk rfl) rfl (by repeat (first | exact List.Mem.head _ | apply List.Mem.tail)) (by rfl)) rfl ?_
  refine Ops.guard_yes rfl rfl rfl rfl rfl ?_
  refine Ops.quiet (Qt.len_sl (ats := #[]) rfl (tk rfl)) rfl ?_
  refine Ops.guard_yes rfl rfl rfl rfl rfl ?_
  refine Ops.quiet (Qt.gtr rfl rfl) rfl ?_
  refine Ops.quiet (Qt.pick_f rfl rfl rfl) rfl ?_
  refine Ops.nil ?_
  refine H.then_normal ?_
  refine H.cond_false rfl (by exact decide_eq_false (by omega)) ?_
  refine H.skip ?_
  refine H.then_normal ?_
  refine H.seq ?_
  refine H.region ?_
  refine Ops.quiet (Qt.move rfl) rfl ?_
  refine Ops.quiet (Qt.nilCheck rfl) rfl ?_
  refine Ops.quiet (Qt.fieldAddr rfl (tk rfl) rfl) rfl ?_
  refine Ops.quiet (Qt.load rfl (tk rfl) rfl (by repeat (first | exact List.Mem.head _ | apply List.Mem.tail)) (by rfl)) rfl ?_
  refine Ops.quiet (Qt.move rfl) rfl ?_
  refine Ops.quiet (Qt.move rfl) rfl ?_
  refine Ops.quiet (Qt.cast (Qt.slice3 rfl (tk rfl) (tk rfl) rfl rfl rfl rfl (by omega) (by omega) (by omega) (by omega)) (take_val A k)) rfl ?_
  refine Ops.quiet (Qt.assign rfl) rfl ?_
  refine Ops.nil ?_
  refine H.then_normal ?_
  refine H.seq ?_
  refine H.region ?_
  refine Ops.quiet (Qt.move rfl) rfl ?_
  refine Ops.quiet (Qt.move rfl) rfl ?_
  refine Ops.quiet (Qt.nilCheck rfl) rfl ?_
  refine Ops.quiet (Qt.fieldAddr rfl (tk rfl) rfl) rfl ?_
  refine Ops.quiet (Qt.load rfl (tk rfl) rfl (by repeat (first | exact List.Mem.head _ | apply List.Mem.tail)) (by rfl)) rfl ?_
  refine Ops.quiet (Qt.move rfl) rfl ?_
  refine Ops.quiet (Qt.slice rfl (tk rfl) (tk rfl) rfl rfl rfl (by omega) (by omega) (by omega) (by omega)) rfl ?_
  refine Ops.quiet (Qt.nilCheck rfl) rfl ?_
  refine Ops.quiet (Qt.fieldAddr rfl (tk rfl) rfl) rfl ?_
  refine Ops.eff (Ef.store rfl rfl (tk rfl) rfl rfl (by repeat (first | exact ones_nil | refine ones_cons rfl ?_)) (by repeat (first | exact Upd.head | apply Upd.tail)) (by rfl)) rfl ?_
  rintro _ _ rfl
  refine Ops.nil ?_
  refine H.then_normal ?_
  refine H.seq ?_
  refine H.region ?_
  refine Ops.quiet (Qt.move rfl) rfl ?_
  refine Ops.quiet (Qt.assign rfl) rfl ?_
  refine Ops.nil ?_
  refine H.then_normal ?_
  refine H.ret ?_
  refine (H.ends rfl (.cons (.tmp rfl) .nil) ?_)
  refine ⟨cutA A c k, n - k, c - k, rfl, ?_, rfl⟩
  intro cs l' hr' hk' w ho
  have h1 := (hr' w ho).len
  simp only [List.length_map] at h1
  exact Reads.drop_map hr' (by omega) w ho
theorem spec_bnum (w0 : World) (b : Nat) (rest : Bs) (size v : Nat) {A : Option Addr} {n c : Nat} (fr : List SProp) (hs : size ≤ 6) (hv : v < 256 ^ size) (hr : Reads w0 fr A n c ((numB size v ++ rest).map u8v)) :
    Spec Tryz.prog w0 42 [ptr b, num size] (blk b [.slice A n c, bol false] 78 :: fr) (fun u cs' => ∃ A' n' c', u = num v ∧ Adv w0 A n c size A' n' c' ∧ cs' = blk b [.slice A' n' c', bol false] 78 :: fr) := by
  have hnl := numB_len size v
  have hpow : (256 : Nat) ^ size ≤ 256 ^ 6 := Nat.pow_le_pow_right (by omega) hs
  have hrt : Reads w0 fr A size size ((numB size v).map u8v) := by
    have := Reads.take_map hr (hi := size)
    intro w ho
    have h1 := (hr w ho).len
    simp only [List.length_map, List.length_append, hnl] at h1
    have h2 := (Reads.clip (Reads.take_map hr (hi := size) (by omega))) w ho
    rwa [List.take_append_of_le_length (by omega), List.take_of_length_le (by omega)] at h2
  refine Spec.of_body Tryz.func42 rfl Tryz.ntmps42 rfl ?_
  refine H.seq ?_
  refine H.region ?_
  refine Ops.quiet (Qt.assign rfl) rfl ?_
  refine Ops.nil ?_
  refine H.then_normal ?_
  refine H.seq ?_
  refine H.region ?_
  refine Ops.quiet (Qt.assign rfl) rfl ?_
  refine Ops.nil ?_
  refine H.then_normal ?_
  refine H.seq ?_
  refine H.seq ?_
  refine H.region ?_
  refine Ops.quiet (Qt.move rfl) rfl ?_
  refine Ops.quiet (Qt.move rfl) rfl ?_
  refine Ops.eff (Ef.call (fok fab_all rfl Tryz.func64 rfl) rfl (spec_btake w0 b _ size fr hr (by rw [List.length_append]; omega))) rfl ?_
  rintro _ _ ⟨A', n', c', rfl, hadv, rfl⟩
  refine Ops.quiet (Qt.len_sl (ats := #[]) rfl (tk rfl)) rfl ?_
  refine Ops.quiet (Qt.move rfl) rfl ?_
  refine Ops.nil ?_
  refine H.then_normal ?_
  refine H.block ?_
  refine H.loop (X := Nat) (fun i => [(5, num ((v / 256 ^ (size - i) : Nat) : Int)), (10, .slice A size size), (11, num size), (12, num i)]) (fun i => blk b [.slice A' n' c', bol false] 78 :: fr) (fun i => i ≤ size) (fun i => size - i) 0 (Nat.zero_le _) (by have e : v / 256 ^ (size - 0) = 0 := Nat.div_eq_of_lt hv; rw [e]; repeat (first | exact trivial | refine ⟨rfl, ?_⟩)) (fun w hw => hw) ?_
  intro i hi
  have hx : v / 256 ^ (size - i) ≤ v := Nat.div_le_self _ _
  have h6 : (256 : Nat) ^ 6 = 281474976710656 := by decide
  refine H.seq ?_
  refine H.region ?_
  refine Ops.quiet (Qt.lss rfl rfl) rfl ?_
  refine Ops.nil ?_
  refine H.then_normal ?_
  refine H.seq ?_
  refine H.cond rfl (fun h13 => ?_) (fun h13 => ?_)
  · try simp only [decide_eq_true_eq, decide_eq_false_iff_not, beq_iff_eq, beq_eq_false_iff_ne, bne_iff_ne, ne_eq, Bool.not_eq_true', Bool.not_eq_false', bne_eq_false_iff_eq, Bool.not_eq_eq_eq_not, Bool.not_true, Bool.not_false] at h13
    refine H.skip ?_
    refine H.then_normal ?_
    refine H.seq ?_
    refine H.block ?_
    refine H.seq ?_
    have hi2 : i < size := by omega
    have hi3 : (i : Int).toNat < (numB size v).length := by omega
    have hat : ((numB size v).getD (i : Int).toNat 0).toNat = v / 256 ^ (size - 1 - i) % 256 := by
      show ((numB size v).getD i 0).toNat = _
      rw [numB_at size v i hi2, byteN_nat]
    have hst := pre_step (v := v) hi2
    obtain ⟨x, hxx⟩ : ∃ x, x = v / 256 ^ (size - i) := ⟨_, rfl⟩
    obtain ⟨y, hyy⟩ : ∃ y, y = v / 256 ^ (size - 1 - i) % 256 := ⟨_, rfl⟩
    rw [← hxx] at hx hst ⊢
    rw [← hyy] at hst hat
    have hy : y < 256 := by rw [hyy]; omega
    have hor := or_add (x := (x : Int)) (b := (y : Int)) (by omega) (by omega) (by omega) (by omega)
    have hfin : (x : Int) * 256 + (y : Int) = ((v / 256 ^ (size - (i + 1)) : Nat) : Int) := by rw [hst]; omega
    refine H.region ?_
    refine Ops.quiet (Qt.indexAddr rfl rfl (tk rfl) (tk rfl) rfl (Reads.tail hrt) (by omega) (by omega)) rfl ?_
    refine Ops.quiet (Qt.load_map (0 : UInt8) rfl (tk rfl) rfl (Reads.tail hrt) (by exact hi3)) rfl ?_
    refine Ops.quiet (Qt.assign rfl) rfl ?_
    refine Ops.nil ?_
    refine H.then_normal ?_
    refine H.region ?_
    refine Ops.quiet (Qt.move rfl) rfl ?_
    refine Ops.quiet (Qt.shl rfl rfl (by decide)) rfl ?_
    refine Ops.quiet (Qt.move rfl) rfl ?_
    refine Ops.quiet (Qt.cast (Qt.conv_k rfl (tk rfl) (tk rfl) (by first | exact IntWalk.i64_in _ (by omega) | exact IntWalk.u8_in _ (by omega) | exact IntWalk.u64_in _ (by omega) | exact IntWalk.u32_in _ (by omega) | exact IntWalk.u16_in _ (by omega))) (show _ = num (y : Int) by rw [hat])) rfl ?_
    refine Ops.quiet (Qt.cast (Qt.ork rfl rfl) (show _ = num ((v / 256 ^ (size - (i + 1)) : Nat) : Int) from congrArg num (hor.trans hfin))) rfl ?_
    refine Ops.quiet (Qt.assign rfl) rfl ?_
    refine Ops.nil ?_
    refine H.blk_normal ?_
    refine H.then_normal ?_
    refine H.region ?_
    refine Ops.quiet (Qt.addk rfl rfl (by first | exact IntWalk.i64_in _ (by omega) | exact IntWalk.u8_in _ (by omega) | exact IntWalk.u64_in _ (by omega) | exact IntWalk.u32_in _ (by omega) | exact IntWalk.u16_in _ (by omega))) rfl ?_
    refine Ops.quiet (Qt.move rfl) rfl ?_
    refine Ops.nil ?_
    refine H.then_normal ?_
    refine H.round (i + 1) (by omega) (by omega) (by repeat (first | exact trivial | refine ⟨rfl, ?_⟩)) (fun w hw => hw)
  · try simp only [decide_eq_true_eq, decide_eq_false_iff_not, beq_iff_eq, beq_eq_false_iff_ne, bne_iff_ne, ne_eq, Bool.not_eq_true', Bool.not_eq_false', bne_eq_false_iff_eq, Bool.not_eq_eq_eq_not, Bool.not_true, Bool.not_false] at h13
    refine H.exit ?_
    refine H.then_exit ?_
    refine H.then_exit ?_
    refine H.blk_hit ?_
    refine H.then_normal ?_
    refine H.seq ?_
    refine H.region ?_
    refine Ops.quiet (Qt.move rfl) rfl ?_
    refine Ops.quiet (Qt.assign rfl) rfl ?_
    refine Ops.nil ?_
    refine H.then_normal ?_
    refine H.ret ?_
    have e : size - i = 0 := by omega
    have e2 : v / 256 ^ (size - i) = v := by rw [e]; simp
    rw [e2]
    refine (H.ends rfl (.cons (.tmp rfl) .nil) ?_)
    exact ⟨A', n', c', rfl, hadv, rfl⟩
theorem spec_btext (w0 : World) (b : Nat) (s rest : Bs) {A : Option Addr} {n c : Nat} (fr : List SProp) (hs : s.length < 65536) (hr : Reads w0 fr A n c ((txtB s ++ rest).map u8v)) :
    Spec Tryz.prog w0 43 [ptr b] (blk b [.slice A n c, bol false] 78 :: fr) (fun u cs' => ∃ A' n' c', u = str s ∧ Adv w0 A n c (txtB s).length A' n' c' ∧ cs' = blk b [.slice A' n' c', bol false] 78 :: fr) := by
  have hl := txtB_len s
  have e0 : txtB s ++ rest = numB 2 s.length ++ (s ++ rest) := by simp [txtB]
  rw [e0] at hr
  refine Spec.of_body Tryz.func43 rfl Tryz.ntmps43 rfl ?_
  refine H.seq ?_
  refine H.region ?_
  refine Ops.quiet (Qt.assign rfl) rfl ?_
  refine Ops.nil ?_
  refine H.then_normal ?_
  refine H.seq ?_
  refine H.region ?_
  refine Ops.quiet (Qt.move rfl) rfl ?_
  refine Ops.quiet (Qt.move rfl) rfl ?_
  refine Ops.eff (Ef.call (fok fab_all rfl Tryz.func42 rfl) rfl (spec_bnum w0 b (s ++ rest) 2 s.length fr (by omega) (by omega) hr)) rfl ?_
  rintro _ _ ⟨A1, n1, c1, rfl, had1, rfl⟩
  have hr1 := had1.app hr (numB_len 2 s.length)
  refine Ops.eff (Ef.call (fok fab_all rfl Tryz.func64 rfl) rfl (spec_btake w0 b (s ++ rest) s.length fr hr1 (by rw [List.length_append]; omega))) rfl ?_
  rintro _ _ ⟨A2, n2, c2, rfl, had2, rfl⟩
  have hrt : Reads w0 fr A1 s.length s.length (s.map u8v) := by
    intro w ho
    have h1 := (hr1 w ho).len
    simp only [List.length_map, List.length_append] at h1
    have h2 := (Reads.clip (Reads.take_map hr1 (hi := s.length) (by omega))) w ho
    rwa [List.take_left] at h2
  refine Ops.quiet (Qt.bytes_str (l := s) rfl (tk rfl) (tk rfl) (tk rfl) (Reads.tail hrt)) rfl ?_
  refine Ops.quiet (Qt.assign rfl) rfl ?_
  refine Ops.nil ?_
  refine H.then_normal ?_
  refine H.ret ?_
  refine (H.ends rfl (.cons (.tmp rfl) .nil) ?_)
  refine ⟨A2, n2, c2, rfl, ?_, rfl⟩
  rw [hl, Nat.add_comm]
  exact had1.trans had2
theorem rcB_drop {l : List Bs} {i : Nat} (h : i < l.length) : rcB (l.drop i) = txtB (l.getD i []) ++ rcB (l.drop (i + 1)) := by
  have hg : l[i] = l.getD i [] := by simp [List.getD_eq_getElem?_getD, h]
  unfold rcB
  rw [List.drop_eq_getElem_cons h, List.map_cons, List.flatten_cons, hg]
theorem rcB_split (l : List Bs) (i : Nat) : rcB l = rcB (l.take i) ++ rcB (l.drop i) := by
  unfold rcB
  rw [← List.flatten_append, ← List.map_append, List.take_append_drop]
theorem mkB_split (l : List Int) (i : Nat) : mkB l = mkB (l.take i) ++ mkB (l.drop i) := by
  unfold mkB
  rw [← List.flatten_append, ← List.map_append, List.take_append_drop]
theorem mkB_drop {l : List Int} {i : Nat} (h : i < l.length) : mkB (l.drop i) = numB 1 (l.getD i 0).toNat ++ mkB (l.drop (i + 1)) := by
  have hg : l[i] = l.getD i 0 := by simp [List.getD_eq_getElem?_getD, h]
  unfold mkB
  rw [List.drop_eq_getElem_cons h, List.map_cons, List.flatten_cons, hg]
  simp [numB]
theorem mkB_succ {l : List Int} {i : Nat} (h : i < l.length) : mkB (l.take (i + 1)) = mkB (l.take i) ++ numB 1 (l.getD i 0).toNat := by
  have := flat_take_succ (fun n : Int => [byteN n.toNat]) 0 h
  simpa [mkB, numB] using this
theorem spec_blists (w0 : World) (b : Nat) (l : List Bs) (rest : Bs) (size : Nat) {A : Option Addr} {n c : Nat} (fr : List SProp) (hs : size ≤ 6) (hn : l.length < 256 ^ size) (hn2 : l.length ≤ 1000000) (hl : ∀ s ∈ l, s.length < 65536) (hr : Reads w0 fr A n c ((numB size l.length ++ (rcB l ++ rest)).map u8v)) :
    Spec Tryz.prog w0 44 [ptr b, num size, .func (.func 43) #[ptr b] #[]] (blk b [.slice A n c, bol false] 78 :: fr) (fun u cs' => ∃ A' n' c' B d, u = .slice B l.length d ∧ Adv w0 A n c (size + (rcB l).length) A' n' c' ∧ cs' = blk b [.slice A' n' c', bol false] 78 :: osl 9 B l.length d (l.map str) :: fr) := by
  refine Spec.of_body Tryz.func44 rfl Tryz.ntmps44 rfl ?_
  refine H.seq ?_
  refine H.region ?_
  refine Ops.quiet (Qt.assign rfl) rfl ?_
  refine Ops.nil ?_
  refine H.then_normal ?_
  refine H.seq ?_
  refine H.region ?_
  refine Ops.quiet (Qt.assign rfl) rfl ?_
  refine Ops.nil ?_
  refine H.then_normal ?_
  refine H.seq ?_
  refine H.seq ?_
  refine H.region ?_
  refine Ops.quiet (Qt.move rfl) rfl ?_
  refine Ops.quiet (Qt.move rfl) rfl ?_
  refine Ops.eff (Ef.call (fok fab_all rfl Tryz.func42 rfl) rfl (spec_bnum w0 b (rcB l ++ rest) size l.length fr hs hn hr)) rfl ?_
  rintro _ _ ⟨A1, n1, c1, rfl, had1, rfl⟩
  refine Ops.quiet (Qt.assign rfl) rfl ?_
  refine Ops.nil ?_
  refine H.then_normal ?_
  refine H.block ?_
  refine H.loop (X := Nat × (Option Addr × Nat × Nat) × Option Addr × Nat) (fun p => [(0, ptr b), (2, .func (.func 43) #[ptr b] #[]), (7, .slice p.2.2.1 p.1 p.2.2.2), (8, num ((l.length : Int) - p.1))]) (fun p => blk b [.slice p.2.1.1 p.2.1.2.1 p.2.1.2.2, bol false] 78 :: osl 9 p.2.2.1 p.1 p.2.2.2 ((l.take p.1).map str) :: fr) (fun p => p.1 ≤ l.length ∧ Adv w0 A n c (size + (rcB (l.take p.1)).length) p.2.1.1 p.2.1.2.1 p.2.1.2.2) (fun p => l.length - p.1) (0, (A1, n1, c1), none, 0) ⟨Nat.zero_le _, had1⟩ (by show ESub [(0, ptr b), (2, _), (7, _), (8, num ((l.length : Int) - ((0 : Nat) : Int)))] _; rw [show (l.length : Int) - ((0 : Nat) : Int) = l.length by omega]; repeat (first | exact trivial | refine ⟨rfl, ?_⟩)) (fun w hw => by
    have h1 : Own w0 w (osl 9 none 0 0 ((l.take 0).map str) :: blk b [.slice A1 n1 c1, bol false] 78 :: fr) := Own.nil_osl _ hw
    exact h1.perm (.swap _ _ _)) ?_
  rintro ⟨i, ⟨A2, n2, c2⟩, B, d⟩ ⟨hi, had⟩
  simp only at hi had
  change H _ _ [(0, ptr b), (2, .func (.func 43) #[ptr b] #[]), (7, .slice B i d), (8, num ((l.length : Int) - i))] (blk b [.slice A2 n2 c2, bol false] 78 :: osl 9 B i d ((l.take i).map str) :: fr) _
  refine H.seq ?_
  refine H.seq ?_
  refine H.region ?_
  refine Ops.quiet (Qt.move rfl) rfl ?_
  refine Ops.quiet (Qt.gtr rfl rfl) rfl ?_
  refine Ops.quiet (Qt.move rfl) rfl ?_
  refine Ops.guard rfl rfl rfl rfl (fun g14 => ?_) (fun g14 => ?_)
  · have g14' := g14
    try simp only [decide_eq_true_eq, decide_eq_false_iff_not, beq_iff_eq, beq_eq_false_iff_ne, bne_iff_ne, ne_eq, Bool.not_eq_true', Bool.not_eq_false', bne_eq_false_iff_eq, Bool.not_eq_eq_eq_not, Bool.not_true, Bool.not_false] at g14'
    refine Ops.quiet (Qt.move rfl) rfl ?_
    refine Ops.guard_yes rfl rfl rfl rfl g14 ?_
    refine Ops.quiet (Qt.nilCheck rfl) rfl ?_
    refine Ops.guard_yes rfl rfl rfl rfl g14 ?_
    refine Ops.quiet (Qt.fieldAddr rfl (tk rfl) rfl) rfl ?_
    refine Ops.guard_yes rfl rfl rfl rfl g14 ?_
    refine Ops.quiet (Qt.load rfl (tk rfl) rfl (by repeat (first | exact List.Mem.head _ | apply List.Mem.tail)) (by rfl)) rfl ?_
    refine Ops.guard_yes rfl rfl rfl rfl g14 ?_
    refine Ops.quiet (Qt.not rfl) rfl ?_
    refine Ops.quiet (Qt.pick_t rfl rfl g14) rfl ?_
    refine Ops.nil ?_
    refine H.then_normal ?_
    refine H.cond_true rfl (by rfl) ?_
    refine H.skip ?_
    refine H.then_normal ?_
    refine H.seq ?_
    refine H.block ?_
    have hi2 : i < l.length := by omega
    obtain ⟨s, hs1⟩ : ∃ s, s = l.getD i [] := ⟨_, rfl⟩
    have hsm : s ∈ l := hs1 ▸ getD_mem [] hi2
    have hsl := hl s hsm
    have e0 : numB size l.length ++ (rcB l ++ rest) = (numB size l.length ++ rcB (l.take i)) ++ (txtB s ++ (rcB (l.drop (i + 1)) ++ rest)) := by
      rw [rcB_split l i, rcB_drop hi2, ← hs1]
      simp only [List.append_assoc]
    have hr2 := hr
    rw [e0] at hr2
    have hr3 := had.app hr2 (by rw [List.length_append, numB_len])
    refine H.region ?_
    refine Ops.quiet (Qt.move rfl) rfl ?_
    refine Ops.quiet (Qt.move rfl) rfl ?_
    refine Ops.eff (Ef.callv (fok fab_all rfl Tryz.func43 rfl) rfl rfl (spec_btext w0 b s (rcB (l.drop (i + 1)) ++ rest) _ hsl (Reads.tail hr3))) rfl ?_
    rintro _ _ ⟨A3, n3, c3, rfl, had3, rfl⟩
    refine Ops.eff (Ef.buildSlice (tk rfl) (tk rfl) rfl (zk rfl) rfl rfl rfl (by repeat (first | exact ones_nil | refine ones_cons rfl ?_))) rfl ?_
    rintro _ _ ⟨A26, c26, rfl, rfl⟩
    refine Ops.eff (Ef.append1 (f := str) (l := l.take i) (b := s) rfl rfl (tk rfl) (tk rfl) rfl (zk rfl) (by repeat (first | assumption | exact Reads.of_head | apply Reads.tail)) (by intro _ _; repeat (first | exact Upd.head | apply Upd.tail)) (fun _ => rfl) (by dsimp only; omega) (by simp only [maxLen]; omega)) rfl ?_
    rintro _ _ ⟨A27, c27, rfl, rfl⟩
    refine Ops.quiet (Qt.assign rfl) rfl ?_
    refine Ops.nil ?_
    refine H.blk_normal ?_
    refine H.then_normal ?_
    refine H.region ?_
    refine Ops.quiet (Qt.move rfl) rfl ?_
    refine Ops.quiet (Qt.subk rfl rfl (by first | exact IntWalk.i64_in _ (by omega) | exact IntWalk.u8_in _ (by omega) | exact IntWalk.u64_in _ (by omega) | exact IntWalk.u32_in _ (by omega) | exact IntWalk.u16_in _ (by omega))) rfl ?_
    refine Ops.quiet (Qt.assign rfl) rfl ?_
    refine Ops.nil ?_
    refine H.then_normal ?_
    have hadn : Adv w0 A n c (size + (rcB (l.take (i + 1))).length) A3 n3 c3 := by
      rw [rcB_succ hi2, ← hs1, List.length_append, ← Nat.add_assoc]
      exact had.trans had3
    refine H.round (i + 1, (A3, n3, c3), A27, c27) ⟨by show i + 1 ≤ l.length; omega, hadn⟩ (by simp only []; omega) (by show ESub [(0, ptr b), (2, _), (7, _), (8, num ((l.length : Int) - ((i + 1 : Nat) : Int)))] _; rw [show (l.length : Int) - ((i + 1 : Nat) : Int) = (l.length : Int) - i - 1 by omega]; repeat (first | exact trivial | refine ⟨rfl, ?_⟩)) (fun w hw => ?_)
    show Own w0 w (blk b [.slice A3 n3 c3, bol false] 78 :: osl 9 A27 (i + 1) c27 ((l.take (i + 1)).map str) :: fr)
    rw [take_snoc [] hi2, ← hs1]
    exact hw.tail
  · have g14' := g14
    try simp only [decide_eq_true_eq, decide_eq_false_iff_not, beq_iff_eq, beq_eq_false_iff_ne, bne_iff_ne, ne_eq, Bool.not_eq_true', Bool.not_eq_false', bne_eq_false_iff_eq, Bool.not_eq_eq_eq_not, Bool.not_true, Bool.not_false] at g14'
    refine Ops.guard_no rfl rfl rfl rfl g14 ?_
    refine Ops.guard_no rfl rfl rfl rfl g14 ?_
    refine Ops.guard_no rfl rfl rfl rfl g14 ?_
    refine Ops.guard_no rfl rfl rfl rfl g14 ?_
    refine Ops.quiet (Qt.pick_f rfl rfl g14) rfl ?_
    refine Ops.nil ?_
    refine H.then_normal ?_
    refine H.cond_false rfl (by rfl) ?_
    refine H.exit ?_
    refine H.then_exit ?_
    refine H.then_exit ?_
    refine H.blk_hit ?_
    refine H.then_normal ?_
    refine H.seq ?_
    refine H.region ?_
    refine Ops.quiet (Qt.move rfl) rfl ?_
    refine Ops.quiet (Qt.assign rfl) rfl ?_
    refine Ops.nil ?_
    refine H.then_normal ?_
    refine H.ret ?_
    obtain rfl : i = l.length := by omega
    rw [List.take_length] at had ⊢
    refine (H.ends rfl (.cons (.tmp rfl) .nil) ?_)
    exact ⟨A2, n2, c2, B, d, rfl, had, rfl⟩
theorem spec_bone (w0 : World) (b b4 : Nat) (x : Int) (rest : Bs) {A : Option Addr} {n c : Nat} (fr : List SProp) (hx : 0 ≤ x ∧ x ≤ 2) (h4 : blk b4 [ptr b] 76 ∈ fr) (hr : Reads w0 fr A n c ((numB 1 x.toNat ++ rest).map u8v)) :
    Spec Tryz.prog w0 46 [ptr b4] (blk b [.slice A n c, bol false] 78 :: fr) (fun u cs' => ∃ A' n' c', u = num x ∧ Adv w0 A n c (numB 1 x.toNat).length A' n' c' ∧ cs' = blk b [.slice A' n' c', bol false] 78 :: fr) := by
  obtain ⟨y, rfl⟩ : ∃ y : Nat, x = y := ⟨x.toNat, by omega⟩
  refine Spec.of_body Tryz.func46 rfl Tryz.ntmps46 rfl ?_
  refine H.seq ?_
  refine H.region ?_
  refine Ops.quiet (Qt.assign rfl) rfl ?_
  refine Ops.nil ?_
  refine H.then_normal ?_
  refine H.seq ?_
  refine H.region ?_
  refine Ops.quiet (Qt.load rfl (tk rfl) rfl (List.Mem.tail _ h4) (by rfl)) rfl ?_
  refine Ops.eff (Ef.call (fok fab_all rfl Tryz.func42 rfl) rfl (spec_bnum w0 b rest 1 (y : Int).toNat fr (by omega) (by omega) hr)) rfl ?_
  rintro _ _ ⟨A1, n1, c1, rfl, had1, rfl⟩
  refine Ops.quiet (Qt.assign rfl) rfl ?_
  refine Ops.nil ?_
  refine H.then_normal ?_
  refine H.ret ?_
  refine (H.ends rfl (.cons (.tmp rfl) .nil) ?_)
  exact ⟨A1, n1, c1, rfl, by rw [numB_len]; exact had1, rfl⟩
theorem spec_blisti (w0 : World) (b : Nat) (l : List Int) (rest : Bs) (size b4 : Nat) {A : Option Addr} {n c : Nat} (fr : List SProp) (hs : size ≤ 6) (hn : l.length < 256 ^ size) (hn2 : l.length ≤ 1000000) (hl : ∀ x ∈ l, 0 ≤ x ∧ x ≤ 2) (h4 : blk b4 [ptr b] 76 ∈ fr) (hr : Reads w0 fr A n c ((numB size l.length ++ (mkB l ++ rest)).map u8v)) :
    Spec Tryz.prog w0 45 [ptr b, num size, .func (.func 46) #[] #[ptr b4]] (blk b [.slice A n c, bol false] 78 :: fr) (fun u cs' => ∃ A' n' c' B d, u = .slice B l.length d ∧ Adv w0 A n c (size + (mkB l).length) A' n' c' ∧ cs' = blk b [.slice A' n' c', bol false] 78 :: osl 3 B l.length d (l.map num) :: fr) := by
  refine Spec.of_body Tryz.func45 rfl Tryz.ntmps45 rfl ?_
  refine H.seq ?_
  refine H.region ?_
  refine Ops.quiet (Qt.assign rfl) rfl ?_
  refine Ops.nil ?_
  refine H.then_normal ?_
  refine H.seq ?_
  refine H.region ?_
  refine Ops.quiet (Qt.assign rfl) rfl ?_
  refine Ops.nil ?_
  refine H.then_normal ?_
  refine H.seq ?_
  refine H.seq ?_
  refine H.region ?_
  refine Ops.quiet (Qt.move rfl) rfl ?_
  refine Ops.quiet (Qt.move rfl) rfl ?_
  refine Ops.eff (Ef.call (fok fab_all rfl Tryz.func42 rfl) rfl (spec_bnum w0 b (mkB l ++ rest) size l.length fr hs hn hr)) rfl ?_
  rintro _ _ ⟨A1, n1, c1, rfl, had1, rfl⟩
  refine Ops.quiet (Qt.assign rfl) rfl ?_
  refine Ops.nil ?_
  refine H.then_normal ?_
  refine H.block ?_
  refine H.loop (X := Nat × (Option Addr × Nat × Nat) × Option Addr × Nat) (fun p => [(0, ptr b), (2, .func (.func 46) #[] #[ptr b4]), (7, .slice p.2.2.1 p.1 p.2.2.2), (8, num ((l.length : Int) - p.1))]) (fun p => blk b [.slice p.2.1.1 p.2.1.2.1 p.2.1.2.2, bol false] 78 :: osl 3 p.2.2.1 p.1 p.2.2.2 ((l.take p.1).map num) :: fr) (fun p => p.1 ≤ l.length ∧ Adv w0 A n c (size + (mkB (l.take p.1)).length) p.2.1.1 p.2.1.2.1 p.2.1.2.2) (fun p => l.length - p.1) (0, (A1, n1, c1), none, 0) ⟨Nat.zero_le _, had1⟩ (by show ESub [(0, ptr b), (2, _), (7, _), (8, num ((l.length : Int) - ((0 : Nat) : Int)))] _; rw [show (l.length : Int) - ((0 : Nat) : Int) = l.length by omega]; repeat (first | exact trivial | refine ⟨rfl, ?_⟩)) (fun w hw => by
    have h1 : Own w0 w (osl 3 none 0 0 ((l.take 0).map num) :: blk b [.slice A1 n1 c1, bol false] 78 :: fr) := Own.nil_osl _ hw
    exact h1.perm (.swap _ _ _)) ?_
  rintro ⟨i, ⟨A2, n2, c2⟩, B, d⟩ ⟨hi, had⟩
  simp only at hi had
  change H _ _ [(0, ptr b), (2, .func (.func 46) #[] #[ptr b4]), (7, .slice B i d), (8, num ((l.length : Int) - i))] (blk b [.slice A2 n2 c2, bol false] 78 :: osl 3 B i d ((l.take i).map num) :: fr) _
  refine H.seq ?_
  refine H.seq ?_
  refine H.region ?_
  refine Ops.quiet (Qt.move rfl) rfl ?_
  refine Ops.quiet (Qt.gtr rfl rfl) rfl ?_
  refine Ops.quiet (Qt.move rfl) rfl ?_
  refine Ops.guard rfl rfl rfl rfl (fun g14 => ?_) (fun g14 => ?_)
  · have g14' := g14
    try simp only [decide_eq_true_eq, decide_eq_false_iff_not, beq_iff_eq, beq_eq_false_iff_ne, bne_iff_ne, ne_eq, Bool.not_eq_true', Bool.not_eq_false', bne_eq_false_iff_eq, Bool.not_eq_eq_eq_not, Bool.not_true, Bool.not_false] at g14'
    refine Ops.quiet (Qt.move rfl) rfl ?_
    refine Ops.guard_yes rfl rfl rfl rfl g14 ?_
    refine Ops.quiet (Qt.nilCheck rfl) rfl ?_
    refine Ops.guard_yes rfl rfl rfl rfl g14 ?_
    refine Ops.quiet (Qt.fieldAddr rfl (tk rfl) rfl) rfl ?_
    refine Ops.guard_yes rfl rfl rfl rfl g14 ?_
    refine Ops.quiet (Qt.load rfl (tk rfl) rfl (by repeat (first | exact List.Mem.head _ | apply List.Mem.tail)) (by rfl)) rfl ?_
    refine Ops.guard_yes rfl rfl rfl rfl g14 ?_
    refine Ops.quiet (Qt.not rfl) rfl ?_
    refine Ops.quiet (Qt.pick_t rfl rfl g14) rfl ?_
    refine Ops.nil ?_
    refine H.then_normal ?_
    refine H.cond_true rfl (by rfl) ?_
    refine H.skip ?_
    refine H.then_normal ?_
    refine H.seq ?_
    refine H.block ?_
    have hi2 : i < l.length := by omega
    obtain ⟨s, hs1⟩ : ∃ s, s = l.getD i 0 := ⟨_, rfl⟩
    have hsm : s ∈ l := hs1 ▸ getD_mem 0 hi2
    have hsl := hl s hsm
    have e0 : numB size l.length ++ (mkB l ++ rest) = (numB size l.length ++ mkB (l.take i)) ++ (numB 1 s.toNat ++ (mkB (l.drop (i + 1)) ++ rest)) := by
      rw [mkB_split l i, mkB_drop hi2, ← hs1]
      simp only [List.append_assoc]
    have hr2 := hr
    rw [e0] at hr2
    have hr3 := had.app hr2 (by rw [List.length_append, numB_len])
    refine H.region ?_
    refine Ops.quiet (Qt.move rfl) rfl ?_
    refine Ops.quiet (Qt.move rfl) rfl ?_
    refine Ops.eff (Ef.callv (fok fab_all rfl Tryz.func46 rfl) rfl rfl (spec_bone w0 b b4 s (mkB (l.drop (i + 1)) ++ rest) _ hsl (List.Mem.tail _ h4) (Reads.tail hr3))) rfl ?_
    rintro _ _ ⟨A3, n3, c3, rfl, had3, rfl⟩
    refine Ops.eff (Ef.buildSlice (tk rfl) (tk rfl) rfl (zk rfl) rfl rfl rfl (by repeat (first | exact ones_nil | refine ones_cons rfl ?_))) rfl ?_
    rintro _ _ ⟨A26, c26, rfl, rfl⟩
    refine Ops.eff (Ef.append1 (f := num) (l := l.take i) (b := s) rfl rfl (tk rfl) (tk rfl) rfl (zk rfl) (by repeat (first | assumption | exact Reads.of_head | apply Reads.tail)) (by intro _ _; repeat (first | exact Upd.head | apply Upd.tail)) (fun _ => rfl) (by dsimp only; omega) (by simp only [maxLen]; omega)) rfl ?_
    rintro _ _ ⟨A27, c27, rfl, rfl⟩
    refine Ops.quiet (Qt.assign rfl) rfl ?_
    refine Ops.nil ?_
    refine H.blk_normal ?_
    refine H.then_normal ?_
    refine H.region ?_
    refine Ops.quiet (Qt.move rfl) rfl ?_
    refine Ops.quiet (Qt.subk rfl rfl (by first | exact IntWalk.i64_in _ (by omega) | exact IntWalk.u8_in _ (by omega) | exact IntWalk.u64_in _ (by omega) | exact IntWalk.u32_in _ (by omega) | exact IntWalk.u16_in _ (by omega))) rfl ?_
    refine Ops.quiet (Qt.assign rfl) rfl ?_
    refine Ops.nil ?_
    refine H.then_normal ?_
    have hadn : Adv w0 A n c (size + (mkB (l.take (i + 1))).length) A3 n3 c3 := by
      rw [mkB_succ hi2, ← hs1, List.length_append, ← Nat.add_assoc]
      exact had.trans had3
    refine H.round (i + 1, (A3, n3, c3), A27, c27) ⟨by show i + 1 ≤ l.length; omega, hadn⟩ (by simp only []; omega) (by show ESub [(0, ptr b), (2, _), (7, _), (8, num ((l.length : Int) - ((i + 1 : Nat) : Int)))] _; rw [show (l.length : Int) - ((i + 1 : Nat) : Int) = (l.length : Int) - i - 1 by omega]; repeat (first | exact trivial | refine ⟨rfl, ?_⟩)) (fun w hw => ?_)
    show Own w0 w (blk b [.slice A3 n3 c3, bol false] 78 :: osl 3 A27 (i + 1) c27 ((l.take (i + 1)).map num) :: fr)
    rw [take_snoc 0 hi2, ← hs1]
    exact hw.tail
  · have g14' := g14
    try simp only [decide_eq_true_eq, decide_eq_false_iff_not, beq_iff_eq, beq_eq_false_iff_ne, bne_iff_ne, ne_eq, Bool.not_eq_true', Bool.not_eq_false', bne_eq_false_iff_eq, Bool.not_eq_eq_eq_not, Bool.not_true, Bool.not_false] at g14'
    refine Ops.guard_no rfl rfl rfl rfl g14 ?_
    refine Ops.guard_no rfl rfl rfl rfl g14 ?_
    refine Ops.guard_no rfl rfl rfl rfl g14 ?_
    refine Ops.guard_no rfl rfl rfl rfl g14 ?_
    refine Ops.quiet (Qt.pick_f rfl rfl g14) rfl ?_
    refine Ops.nil ?_
    refine H.then_normal ?_
    refine H.cond_false rfl (by rfl) ?_
    refine H.exit ?_
    refine H.then_exit ?_
    refine H.then_exit ?_
    refine H.blk_hit ?_
    refine H.then_normal ?_
    refine H.seq ?_
    refine H.region ?_
    refine Ops.quiet (Qt.move rfl) rfl ?_
    refine Ops.quiet (Qt.assign rfl) rfl ?_
    refine Ops.nil ?_
    refine H.then_normal ?_
    refine H.ret ?_
    obtain rfl : i = l.length := by omega
    rw [List.take_length] at had ⊢
    refine (H.ends rfl (.cons (.tmp rfl) .nil) ?_)
    exact ⟨A2, n2, c2, B, d, rfl, had, rfl⟩
theorem spec_bnumi (w0 : World) (b : Nat) (rest : Bs) (size : Nat) (x : Int) {A : Option Addr} {n c : Nat} (fr : List SProp) (hs : size ≤ 6) (h0 : 0 ≤ x) (hv : x.toNat < 256 ^ size) (hr : Reads w0 fr A n c ((numB size x.toNat ++ rest).map u8v)) :
    Spec Tryz.prog w0 42 [ptr b, num size] (blk b [.slice A n c, bol false] 78 :: fr) (fun u cs' => ∃ A' n' c', u = num x ∧ Adv w0 A n c size A' n' c' ∧ cs' = blk b [.slice A' n' c', bol false] 78 :: fr) := by
  have h := spec_bnum w0 b rest size x.toNat fr hs hv hr
  rw [show ((x.toNat : Nat) : Int) = x by omega] at h
  exact h
theorem mbox_len {s : Bs} (h : mboxB s = true) : s.length ≤ 400 := by
  simp only [mboxB, Bool.and_eq_true] at h
  have h1 := h.1
  unfold canonM at h1
  split at h1
  · rename_i hs
    unfold splitM at hs
    split at hs
    · rename_i hc
      simp only [Bool.and_eq_true] at hc
      have e := congrArg List.length (cut_eq hc.1)
      rw [List.length_append, List.length_cons] at e
      have l1 := hc.2.1
      have l2 := hc.2.2
      simp only [localB, domainB, Bool.and_eq_true, decide_eq_true_eq] at l1 l2
      omega
    · cases hs
  · cases h1
theorem okB_len {s : Bs} (h : okB s = true) : s.length ≤ 997 := by
  simp only [okB, Bool.not_eq_true', Bool.or_eq_false_iff, decide_eq_false_iff_not] at h
  omega
theorem bytesM_eq (m : Mg) : bytesM m = numB 1 2 ++ (numB 6 m.id.toNat ++ (numB 6 m.gen.toNat ++ (numB 6 m.born.toNat ++ (numB 6 m.tries.toNat ++ (numB 6 m.due.toNat ++ (txtB m.frm ++ (numB 2 m.rcpts.length ++ (rcB m.rcpts ++ (numB 2 m.marks.length ++ (mkB m.marks ++ (numB 4 m.body.length ++ (rcB m.body ++ [])))))))))))) := by
  simp only [bytesM, numsB, Mg.nums, List.map_cons, List.map_nil, List.flatten_cons, List.flatten_nil, List.append_assoc, List.append_nil]
  rfl
set_option maxHeartbeats 2000000 in
theorem spec_bdecode (w0 : World) (hG : Gl w0) (m : Mg) (hb : MB m) (hg : GoodM m) {A : Option Addr} {n c : Nat} (cs : List SProp) (hr : Reads w0 cs A n c ((bytesM m).map u8v)) :
    Spec Tryz.prog w0 21 [.slice A n c] cs (fun v cs' => ∃ a : Ma, v = .tuple #[m.v a, num 0] ∧ cs' = osl 9 a.r.A a.r.n a.r.c (m.rcpts.map str) :: osl 3 a.m.A a.m.n a.m.c (m.marks.map num) :: osl 9 a.b.A a.b.n a.b.c (m.body.map str) :: cs) := by
  have n1 := hg.nums m.id (by simp [Mg.nums])
  have n2 := hg.nums m.gen (by simp [Mg.nums])
  have n3 := hg.nums m.born (by simp [Mg.nums])
  have n4 := hg.nums m.tries (by simp [Mg.nums])
  have n5 := hg.nums m.due (by simp [Mg.nums])
  have hfl : m.frm.length ≤ 400 := by
    rcases hg.frm with h | h
    · rw [h]; simp
    · exact mbox_len h
  have hr1' := hg.r1
  have hm1 := hg.m1
  have hbl := goodB_len hg.bd
  have hok : ∀ s ∈ m.body, okB s = true := by
    have := hg.bd
    simp only [goodB, Bool.and_eq_true, List.all_eq_true] at this
    exact this.1
  rw [bytesM_eq] at hr
  refine Spec.of_body Tryz.func21 rfl Tryz.ntmps21 rfl ?_
  refine H.seq ?_
  refine H.region ?_
  refine Ops.eff (Ef.alloc (zk rfl)) rfl ?_
  rintro _ _ ⟨b2, rfl, rfl⟩
  refine Ops.quiet (Qt.assign rfl) rfl ?_
  refine Ops.nil ?_
  refine H.then_normal ?_
  refine H.seq ?_
  refine H.region ?_
  refine Ops.quiet (Qt.move rfl) rfl ?_
  refine Ops.quiet (Qt.build (tk rfl) (zk rfl) rfl (by rfl)) rfl ?_
  refine Ops.eff (Ef.box rfl rfl) rfl ?_
  rintro _ _ ⟨b9, rfl, rfl⟩
  refine Ops.eff (Ef.alloc (zk rfl)) rfl ?_
  rintro _ _ ⟨b4, rfl, rfl⟩
  refine Ops.eff (Ef.store rfl rfl (tk rfl) rfl rfl (by repeat (first | exact ones_nil | refine ones_cons rfl ?_)) (by repeat (first | exact Upd.head | apply Upd.tail)) (by rfl)) rfl ?_
  rintro _ _ rfl
  refine Ops.nil ?_
  refine H.then_normal ?_
  refine H.seq ?_
  refine H.fr1 ?_
  refine H.region ?_
  refine Ops.quiet (Qt.load rfl (tk rfl) rfl (by repeat (first | exact List.Mem.head _ | apply List.Mem.tail)) (by rfl)) rfl ?_
  refine Ops.eff (Ef.call (fok fab_all rfl Tryz.func42 rfl) rfl (spec_bnum w0 b9 _ 1 2 _ (by omega) (by omega) (by repeat (first | assumption | exact Reads.of_head | apply Reads.tail)))) rfl ?_
  rintro _ _ ⟨A1, q1, c1, rfl, ad1, rfl⟩
  refine Ops.quiet (Qt.assign rfl) rfl ?_
  refine Ops.nil ?_
  refine H.then_normal ?_
  refine H.seq ?_
  have hr1 : Reads w0 cs A1 q1 c1 ((numB 6 m.id.toNat ++ (numB 6 m.gen.toNat ++ (numB 6 m.born.toNat ++ (numB 6 m.tries.toNat ++ (numB 6 m.due.toNat ++ (txtB m.frm ++ (numB 2 m.rcpts.length ++ (rcB m.rcpts ++ (numB 2 m.marks.length ++ (mkB m.marks ++ (numB 4 m.body.length ++ (rcB m.body ++ [])))))))))))).map u8v) := ad1.app hr (numB_len _ _)
  refine H.drawn ([blk b4 [ptr b9] 76]) 14 mixed (by kernel_rfl) ?_
  refine Hd.quiet 0 (by kernel_rfl) rfl rfl (by kernel_rfl) rfl (Qt.load rfl (tk rfl) rfl (by repeat (first | exact List.Mem.head _ | apply List.Mem.tail)) (by rfl)) ?_
  refine Hd.quiet 2 (by kernel_rfl) rfl rfl (by kernel_rfl) rfl (Qt.load rfl (tk rfl) rfl (by repeat (first | exact List.Mem.head _ | apply List.Mem.tail)) (by rfl)) ?_
  refine Hd.quiet 4 (by kernel_rfl) rfl rfl (by kernel_rfl) rfl (Qt.load rfl (tk rfl) rfl (by repeat (first | exact List.Mem.head _ | apply List.Mem.tail)) (by rfl)) ?_
  refine Hd.quiet 6 (by kernel_rfl) rfl rfl (by kernel_rfl) rfl (Qt.load rfl (tk rfl) rfl (by repeat (first | exact List.Mem.head _ | apply List.Mem.tail)) (by rfl)) ?_
  refine Hd.quiet 8 (by kernel_rfl) rfl rfl (by kernel_rfl) rfl (Qt.load rfl (tk rfl) rfl (by repeat (first | exact List.Mem.head _ | apply List.Mem.tail)) (by rfl)) ?_
  refine Hd.quiet 10 (by kernel_rfl) rfl rfl (by kernel_rfl) rfl (Qt.load rfl (tk rfl) rfl (by repeat (first | exact List.Mem.head _ | apply List.Mem.tail)) (by rfl)) ?_
  refine Hd.eff2 1 13 (by intro w hw; first | exact hw | exact Own.sub (by repeat (first | exact List.Sublist.refl _ | exact List.nil_sublist _ | apply List.Sublist.cons_cons | apply List.Sublist.cons)) hw) rfl rfl (by kernel_rfl) (by kernel_rfl) (by kernel_rfl) rfl rfl (Ef.call (fok fab_all rfl Tryz.func42 rfl) rfl (spec_bnumi w0 b9 _ 6 m.id _ (by omega) n1.1 (by omega) (by repeat (first | assumption | exact Reads.of_head | apply Reads.tail)))) (Ef.alloc (zk rfl)) ?_ ?_
  · rintro _ _ ⟨A2, q2, c2, rfl, ad2, rfl⟩
    have hr2 : Reads w0 cs A2 q2 c2 ((numB 6 m.gen.toNat ++ (numB 6 m.born.toNat ++ (numB 6 m.tries.toNat ++ (numB 6 m.due.toNat ++ (txtB m.frm ++ (numB 2 m.rcpts.length ++ (rcB m.rcpts ++ (numB 2 m.marks.length ++ (mkB m.marks ++ (numB 4 m.body.length ++ (rcB m.body ++ []))))))))))).map u8v) := ad2.app hr1 (numB_len _ _)
    refine Hd.eff2 3 13 (by intro w hw; first | exact hw | exact Own.sub (by repeat (first | exact List.Sublist.refl _ | exact List.nil_sublist _ | apply List.Sublist.cons_cons | apply List.Sublist.cons)) hw) rfl rfl (by kernel_rfl) (by kernel_rfl) (by kernel_rfl) rfl rfl (Ef.call (fok fab_all rfl Tryz.func42 rfl) rfl (spec_bnumi w0 b9 _ 6 m.gen _ (by omega) n2.1 (by omega) (by repeat (first | assumption | exact Reads.of_head | apply Reads.tail)))) (Ef.alloc (zk rfl)) ?_ ?_
    · rintro _ _ ⟨A3, q3, c3, rfl, ad3, rfl⟩
      have hr3 : Reads w0 cs A3 q3 c3 ((numB 6 m.born.toNat ++ (numB 6 m.tries.toNat ++ (numB 6 m.due.toNat ++ (txtB m.frm ++ (numB 2 m.rcpts.length ++ (rcB m.rcpts ++ (numB 2 m.marks.length ++ (mkB m.marks ++ (numB 4 m.body.length ++ (rcB m.body ++ [])))))))))).map u8v) := ad3.app hr2 (numB_len _ _)
      refine Hd.eff2 5 13 (by intro w hw; first | exact hw | exact Own.sub (by repeat (first | exact List.Sublist.refl _ | exact List.nil_sublist _ | apply List.Sublist.cons_cons | apply List.Sublist.cons)) hw) rfl rfl (by kernel_rfl) (by kernel_rfl) (by kernel_rfl) rfl rfl (Ef.call (fok fab_all rfl Tryz.func42 rfl) rfl (spec_bnumi w0 b9 _ 6 m.born _ (by omega) n3.1 (by omega) (by repeat (first | assumption | exact Reads.of_head | apply Reads.tail)))) (Ef.alloc (zk rfl)) ?_ ?_
      · rintro _ _ ⟨A4, q4, c4, rfl, ad4, rfl⟩
        have hr4 : Reads w0 cs A4 q4 c4 ((numB 6 m.tries.toNat ++ (numB 6 m.due.toNat ++ (txtB m.frm ++ (numB 2 m.rcpts.length ++ (rcB m.rcpts ++ (numB 2 m.marks.length ++ (mkB m.marks ++ (numB 4 m.body.length ++ (rcB m.body ++ []))))))))).map u8v) := ad4.app hr3 (numB_len _ _)
        refine Hd.eff2 7 13 (by intro w hw; first | exact hw | exact Own.sub (by repeat (first | exact List.Sublist.refl _ | exact List.nil_sublist _ | apply List.Sublist.cons_cons | apply List.Sublist.cons)) hw) rfl rfl (by kernel_rfl) (by kernel_rfl) (by kernel_rfl) rfl rfl (Ef.call (fok fab_all rfl Tryz.func42 rfl) rfl (spec_bnumi w0 b9 _ 6 m.tries _ (by omega) n4.1 (by omega) (by repeat (first | assumption | exact Reads.of_head | apply Reads.tail)))) (Ef.alloc (zk rfl)) ?_ ?_
        · rintro _ _ ⟨A5, q5, c5, rfl, ad5, rfl⟩
          have hr5 : Reads w0 cs A5 q5 c5 ((numB 6 m.due.toNat ++ (txtB m.frm ++ (numB 2 m.rcpts.length ++ (rcB m.rcpts ++ (numB 2 m.marks.length ++ (mkB m.marks ++ (numB 4 m.body.length ++ (rcB m.body ++ [])))))))).map u8v) := ad5.app hr4 (numB_len _ _)
          refine Hd.eff2 9 13 (by intro w hw; first | exact hw | exact Own.sub (by repeat (first | exact List.Sublist.refl _ | exact List.nil_sublist _ | apply List.Sublist.cons_cons | apply List.Sublist.cons)) hw) rfl rfl (by kernel_rfl) (by kernel_rfl) (by kernel_rfl) rfl rfl (Ef.call (fok fab_all rfl Tryz.func42 rfl) rfl (spec_bnumi w0 b9 _ 6 m.due _ (by omega) n5.1 (by omega) (by repeat (first | assumption | exact Reads.of_head | apply Reads.tail)))) (Ef.alloc (zk rfl)) ?_ ?_
          · rintro _ _ ⟨A6, q6, c6, rfl, ad6, rfl⟩
            have hr6 : Reads w0 cs A6 q6 c6 ((txtB m.frm ++ (numB 2 m.rcpts.length ++ (rcB m.rcpts ++ (numB 2 m.marks.length ++ (mkB m.marks ++ (numB 4 m.body.length ++ (rcB m.body ++ []))))))).map u8v) := ad6.app hr5 (numB_len _ _)
            refine Hd.eff2 11 13 (by intro w hw; first | exact hw | exact Own.sub (by repeat (first | exact List.Sublist.refl _ | exact List.nil_sublist _ | apply List.Sublist.cons_cons | apply List.Sublist.cons)) hw) rfl rfl (by kernel_rfl) (by kernel_rfl) (by kernel_rfl) rfl rfl (Ef.call (fok fab_all rfl Tryz.func43 rfl) rfl (spec_btext w0 b9 m.frm _ _ (by omega) (by repeat (first | assumption | exact Reads.of_head | apply Reads.tail)))) (Ef.alloc (zk rfl)) ?_ ?_
            · rintro _ _ ⟨A7, q7, c7, rfl, ad7, rfl⟩
              have hr7 : Reads w0 cs A7 q7 c7 ((numB 2 m.rcpts.length ++ (rcB m.rcpts ++ (numB 2 m.marks.length ++ (mkB m.marks ++ (numB 4 m.body.length ++ (rcB m.body ++ [])))))).map u8v) := ad7.app hr6 rfl
              refine Hd.quiet 12 (by kernel_rfl) rfl rfl (by kernel_rfl) rfl (Qt.build (tk rfl) (zk rfl) rfl (by rfl)) ?_
              refine Hd.eff 13 (by intro w hw; first | exact hw | exact Own.sub (by repeat (first | exact List.Sublist.refl _ | exact List.nil_sublist _ | apply List.Sublist.cons_cons | apply List.Sublist.cons)) hw) rfl rfl (by kernel_rfl) rfl (Ef.alloc (zk rfl)) ?_
              rintro _ _ ⟨b6, rfl, rfl⟩
              refine Hd.tail (by intro w hw; first | exact hw | exact Own.sub (by repeat (first | exact List.Sublist.refl _ | exact List.nil_sublist _ | apply List.Sublist.cons_cons | apply List.Sublist.cons)) hw) (by kernel_rfl) rfl ?_
              refine Ops.eff (Ef.store rfl rfl (tk rfl) rfl rfl (by repeat (first | exact ones_nil | refine ones_cons rfl ?_)) (by repeat (first | exact Upd.head | apply Upd.tail)) (by rfl)) rfl ?_
              rintro _ _ rfl
              refine Ops.nil ?_
              refine H.then_normal ?_
              refine H.seq ?_
              refine H.fr1 ?_
              refine H.conv (cs' := blk b9 [.slice A7 q7 c7, bol false] 78 :: blk b6 [num m.id, num m.gen, num m.born, num m.tries, num m.due, str m.frm, .slice none 0 0, .slice none 0 0, .slice none 0 0] 25 :: blk b4 [ptr b9] 76 :: blk b2 [num 0, num 0, num 0, num 0, num 0, str [], .slice none 0 0, .slice none 0 0, .slice none 0 0] 25 :: cs) (fun w hw => hw) ?_
              refine H.region ?_
              refine Ops.quiet (Qt.load rfl (tk rfl) rfl (by repeat (first | exact List.Mem.head _ | apply List.Mem.tail)) (by rfl)) rfl ?_
              refine Ops.quiet (Qt.load rfl (tk rfl) rfl (by repeat (first | exact List.Mem.head _ | apply List.Mem.tail)) (by rfl)) rfl ?_
              refine Ops.quiet (Qt.makeFunc rfl rfl) rfl ?_
              refine Ops.eff (Ef.call (fok fab_all rfl Tryz.func44 rfl) rfl (spec_blists w0 b9 m.rcpts (numB 2 m.marks.length ++ (mkB m.marks ++ (numB 4 m.body.length ++ (rcB m.body ++ [])))) 2 _ (by omega) (by omega) (by omega) (fun s hs => by have := mbox_len (hg.rc s hs); omega) (by repeat (first | assumption | exact Reads.of_head | apply Reads.tail)))) rfl ?_
              rintro _ _ ⟨A8, q8, c8, B1, d1, rfl, ad8, rfl⟩
              have hr8 : Reads w0 cs A8 q8 c8 ((numB 2 m.marks.length ++ (mkB m.marks ++ (numB 4 m.body.length ++ (rcB m.body ++ [])))).map u8v) := ad8.app (p := numB 2 m.rcpts.length ++ rcB m.rcpts) (by rw [List.append_assoc]; exact hr7) (by rw [List.length_append, numB_len])
              refine Ops.quiet (Qt.fieldAddr rfl (tk rfl) rfl) rfl ?_
              refine Ops.eff (Ef.store rfl rfl (tk rfl) rfl rfl (by repeat (first | exact ones_nil | refine ones_cons rfl ?_)) (by repeat (first | exact Upd.head | apply Upd.tail)) (by rfl)) rfl ?_
              rintro _ _ rfl
              refine Ops.nil ?_
              refine H.then_normal ?_
              refine H.seq ?_
              refine H.conv (cs' := blk b9 [.slice A8 q8 c8, bol false] 78 :: osl 9 B1 m.rcpts.length d1 (m.rcpts.map str) :: blk b6 [num m.id, num m.gen, num m.born, num m.tries, num m.due, str m.frm, .slice B1 m.rcpts.length d1, .slice none 0 0, .slice none 0 0] 25 :: blk b4 [ptr b9] 76 :: blk b2 [num 0, num 0, num 0, num 0, num 0, str [], .slice none 0 0, .slice none 0 0, .slice none 0 0] 25 :: cs) (fun w hw => hw) ?_
              refine H.region ?_
              refine Ops.quiet (Qt.load rfl (tk rfl) rfl (by repeat (first | exact List.Mem.head _ | apply List.Mem.tail)) (by rfl)) rfl ?_
              refine Ops.quiet (Qt.makeFunc rfl rfl) rfl ?_
              refine Ops.eff (Ef.call (fok fab_all rfl Tryz.func45 rfl) rfl (spec_blisti w0 b9 m.marks (numB 4 m.body.length ++ (rcB m.body ++ [])) 2 b4 _ (by omega) (by omega) (by omega) (fun s hs => hg.mks s hs) (by repeat (first | exact List.Mem.head _ | apply List.Mem.tail)) (by repeat (first | assumption | exact Reads.of_head | apply Reads.tail)))) rfl ?_
              rintro _ _ ⟨A9, q9, c9, B2, d2, rfl, ad9, rfl⟩
              have hr9 : Reads w0 cs A9 q9 c9 ((numB 4 m.body.length ++ (rcB m.body ++ [])).map u8v) := ad9.app (p := numB 2 m.marks.length ++ mkB m.marks) (by rw [List.append_assoc]; exact hr8) (by rw [List.length_append, numB_len])
              refine Ops.quiet (Qt.fieldAddr rfl (tk rfl) rfl) rfl ?_
              refine Ops.eff (Ef.store rfl rfl (tk rfl) rfl rfl (by repeat (first | exact ones_nil | refine ones_cons rfl ?_)) (by repeat (first | exact Upd.head | apply Upd.tail)) (by rfl)) rfl ?_
              rintro _ _ rfl
              refine Ops.nil ?_
              refine H.then_normal ?_
              refine H.seq ?_
              refine H.conv (cs' := blk b9 [.slice A9 q9 c9, bol false] 78 :: osl 3 B2 m.marks.length d2 (m.marks.map num) :: osl 9 B1 m.rcpts.length d1 (m.rcpts.map str) :: blk b6 [num m.id, num m.gen, num m.born, num m.tries, num m.due, str m.frm, .slice B1 m.rcpts.length d1, .slice B2 m.marks.length d2, .slice none 0 0] 25 :: blk b4 [ptr b9] 76 :: blk b2 [num 0, num 0, num 0, num 0, num 0, str [], .slice none 0 0, .slice none 0 0, .slice none 0 0] 25 :: cs) (fun w hw => hw) ?_
              refine H.region ?_
              refine Ops.quiet (Qt.load rfl (tk rfl) rfl (by repeat (first | exact List.Mem.head _ | apply List.Mem.tail)) (by rfl)) rfl ?_
              refine Ops.quiet (Qt.load rfl (tk rfl) rfl (by repeat (first | exact List.Mem.head _ | apply List.Mem.tail)) (by rfl)) rfl ?_
              refine Ops.quiet (Qt.makeFunc rfl rfl) rfl ?_
              refine Ops.eff (Ef.call (fok fab_all rfl Tryz.func44 rfl) rfl (spec_blists w0 b9 m.body [] 4 _ (by omega) (by omega) (by omega) (fun s hs => by have := okB_len (hok s hs); omega) (by repeat (first | assumption | exact Reads.of_head | apply Reads.tail)))) rfl ?_
              rintro _ _ ⟨A10, q10, c10, B3, d3, rfl, ad10, rfl⟩
              have hr10 : Reads w0 cs A10 q10 c10 (([] : Bs).map u8v) := ad10.app (p := numB 4 m.body.length ++ rcB m.body) (by rw [List.append_assoc]; exact hr9) (by rw [List.length_append, numB_len])
              refine Ops.quiet (Qt.fieldAddr rfl (tk rfl) rfl) rfl ?_
              refine Ops.eff (Ef.store rfl rfl (tk rfl) rfl rfl (by repeat (first | exact ones_nil | refine ones_cons rfl ?_)) (by repeat (first | exact Upd.head | apply Upd.tail)) (by rfl)) rfl ?_
              rintro _ _ rfl
              refine Ops.nil ?_
              refine H.then_normal ?_
              refine H.seq ?_
              refine H.seq ?_
              have hr11 : Reads w0 (blk b9 [.slice A10 q10 c10, bol false] 78 :: cs) A10 q10 c10 (([] : Bs).map u8v) := Reads.tail hr10
              refine H.fact (fun w hw => ((hr10 w (hw.sub (by repeat (first | exact List.Sublist.refl _ | exact List.nil_sublist _ | apply List.Sublist.cons_cons | apply List.Sublist.cons)))).len)) fun hq10 => ?_
              obtain rfl : q10 = 0 := hq10.symm
              refine H.conv (cs' := blk b9 [.slice A10 0 c10, bol false] 78 :: osl 9 B3 m.body.length d3 (m.body.map str) :: osl 3 B2 m.marks.length d2 (m.marks.map num) :: osl 9 B1 m.rcpts.length d1 (m.rcpts.map str) :: blk b6 [num m.id, num m.gen, num m.born, num m.tries, num m.due, str m.frm, .slice B1 m.rcpts.length d1, .slice B2 m.marks.length d2, .slice B3 m.body.length d3] 25 :: blk b4 [ptr b9] 76 :: blk b2 [num 0, num 0, num 0, num 0, num 0, str [], .slice none 0 0, .slice none 0 0, .slice none 0 0] 25 :: cs) (fun w hw => hw) ?_
              have hq := spec_egood w0 hG m ⟨⟨B1, m.rcpts.length, d1⟩, ⟨B2, m.marks.length, d2⟩, ⟨B3, m.body.length, d3⟩⟩ hb
              rw [goodM_iff.2 hg] at hq
              refine H.region ?_
              refine Ops.quiet (Qt.load rfl (tk rfl) rfl (by repeat (first | exact List.Mem.head _ | apply List.Mem.tail)) (by rfl)) rfl ?_
              refine Ops.quiet (Qt.nilCheck rfl) rfl ?_
              refine Ops.quiet (Qt.fieldAddr rfl (tk rfl) rfl) rfl ?_
              refine Ops.quiet (Qt.load rfl (tk rfl) rfl (by repeat (first | exact List.Mem.head _ | apply List.Mem.tail)) (by rfl)) rfl ?_
              refine Ops.quiet (Qt.move rfl) rfl ?_
              refine Ops.guard_yes rfl rfl rfl rfl rfl ?_
              refine Ops.quiet (Qt.move rfl) rfl ?_
              refine Ops.guard_yes rfl rfl rfl rfl rfl ?_
              refine Ops.quiet (Qt.neq rfl rfl) rfl ?_
              refine Ops.quiet (Qt.pick_f rfl rfl rfl) rfl ?_
              refine Ops.quiet (Qt.move rfl) rfl ?_
              refine Ops.guard_yes rfl rfl rfl rfl rfl ?_
              refine Ops.quiet (Qt.load rfl (tk rfl) rfl (by repeat (first | exact List.Mem.head _ | apply List.Mem.tail)) (by rfl)) rfl ?_
              refine Ops.guard_yes rfl rfl rfl rfl rfl ?_
              refine Ops.quiet (Qt.nilCheck rfl) rfl ?_
              refine Ops.guard_yes rfl rfl rfl rfl rfl ?_
              refine Ops.quiet (Qt.fieldAddr rfl (tk rfl) rfl) rfl ?_
              refine Ops.guard_yes rfl rfl rfl rfl rfl ?_
              refine Ops.quiet (Qt.load rfl (tk rfl) rfl (by repeat (first | exact List.Mem.head _ | apply List.Mem.tail)) (by rfl)) rfl ?_
              refine Ops.guard_yes rfl rfl rfl rfl rfl ?_
              refine Ops.quiet (Qt.len_sl (ats := #[]) rfl (tk rfl)) rfl ?_
              refine Ops.guard_yes rfl rfl rfl rfl rfl ?_
              refine Ops.quiet (Qt.gtr rfl rfl) rfl ?_
              refine Ops.quiet (Qt.pick_f rfl rfl rfl) rfl ?_
              refine Ops.quiet (Qt.move rfl) rfl ?_
              refine Ops.guard_yes rfl rfl rfl rfl rfl ?_
              refine Ops.quiet (Qt.load_agg rfl (tk rfl) rfl (by repeat (first | exact List.Mem.head _ | apply List.Mem.tail)) (by rfl) (by rfl)) rfl ?_
              refine Ops.guard_yes rfl rfl rfl rfl rfl ?_
              refine Ops.eff (Ef.call (fok fab_all rfl Tryz.func27 rfl) rfl (hq _ ⟨osl_reads (by repeat (first | exact List.Mem.head _ | apply List.Mem.tail)), osl_reads (by repeat (first | exact List.Mem.head _ | apply List.Mem.tail)), osl_reads (by repeat (first | exact List.Mem.head _ | apply List.Mem.tail))⟩)) rfl ?_
              rintro _ c0 ⟨rfl, h0⟩; subst c0
              refine Ops.guard_yes rfl rfl rfl rfl rfl ?_
              refine Ops.quiet (Qt.not rfl) rfl ?_
              refine Ops.quiet (Qt.pick_f rfl rfl rfl) rfl ?_
              refine Ops.nil ?_
              refine H.then_normal ?_
              refine H.cond_false rfl (by rfl) ?_
              refine H.skip ?_
              refine H.then_normal ?_
              refine H.seq ?_
              refine H.region ?_
              refine Ops.quiet (Qt.load_agg rfl (tk rfl) rfl (by repeat (first | exact List.Mem.head _ | apply List.Mem.tail)) (by rfl) (by rfl)) rfl ?_
              refine Ops.eff (Ef.store rfl rfl (tk rfl) rfl rfl (by repeat (first | exact ones_nil | refine ones_cons rfl ?_)) (by repeat (first | exact Upd.head | apply Upd.tail)) (by rfl)) rfl ?_
              rintro _ _ rfl
              refine Ops.quiet (Qt.assign rfl) rfl ?_
              refine Ops.nil ?_
              refine H.then_normal ?_
              refine H.ret ?_
              refine (H.ends_to (cs' := osl 9 B1 m.rcpts.length d1 (m.rcpts.map str) :: osl 3 B2 m.marks.length d2 (m.marks.map num) :: osl 9 B3 m.body.length d3 (m.body.map str) :: cs) rfl (.cons (.agg rfl (tk rfl) rfl (by repeat (first | exact List.Mem.head _ | apply List.Mem.tail)) (by rfl) (by rfl)) (.cons (.tmp rfl) .nil)) (fun w hw => ?_) ?_)
              · have h1 : Own w0 w (osl 9 B3 m.body.length d3 (m.body.map str) :: osl 3 B2 m.marks.length d2 (m.marks.map num) :: osl 9 B1 m.rcpts.length d1 (m.rcpts.map str) :: cs) := hw.sub (by repeat (first | exact List.Sublist.refl _ | exact List.nil_sublist _ | apply List.Sublist.cons_cons | apply List.Sublist.cons))
                exact h1.perm (List.Perm.append_right cs (List.reverse_perm [osl 9 B1 m.rcpts.length d1 (m.rcpts.map str), osl 3 B2 m.marks.length d2 (m.marks.map num), osl 9 B3 m.body.length d3 (m.body.map str)]))
              · exact ⟨⟨⟨B1, m.rcpts.length, d1⟩, ⟨B2, m.marks.length, d2⟩, ⟨B3, m.body.length, d3⟩⟩, rfl, rfl⟩
            · rintro _ _ ⟨b6, rfl, rfl⟩
              refine Hd.conv (fun w hw => hw.perm (.swap _ _ _)) ?_
              refine Hd.eff 11 (by intro w hw; first | exact hw | exact Own.sub (by repeat (first | exact List.Sublist.refl _ | exact List.nil_sublist _ | apply List.Sublist.cons_cons | apply List.Sublist.cons)) hw) rfl rfl (by kernel_rfl) rfl (Ef.call (fok fab_all rfl Tryz.func43 rfl) rfl (spec_btext w0 b9 m.frm _ _ (by omega) (by repeat (first | assumption | exact Reads.of_head | apply Reads.tail)))) ?_
              rintro _ _ ⟨A7, q7, c7, rfl, ad7, rfl⟩
              have hr7 : Reads w0 cs A7 q7 c7 ((numB 2 m.rcpts.length ++ (rcB m.rcpts ++ (numB 2 m.marks.length ++ (mkB m.marks ++ (numB 4 m.body.length ++ (rcB m.body ++ [])))))).map u8v) := ad7.app hr6 rfl
              refine Hd.quiet 12 (by kernel_rfl) rfl rfl (by kernel_rfl) rfl (Qt.build (tk rfl) (zk rfl) rfl (by rfl)) ?_
              refine Hd.tail (by intro w hw; first | exact hw | exact Own.sub (by repeat (first | exact List.Sublist.refl _ | exact List.nil_sublist _ | apply List.Sublist.cons_cons | apply List.Sublist.cons)) hw) (by kernel_rfl) rfl ?_
              refine Ops.eff (Ef.store rfl rfl (tk rfl) rfl rfl (by repeat (first | exact ones_nil | refine ones_cons rfl ?_)) (by repeat (first | exact Upd.head | apply Upd.tail)) (by rfl)) rfl ?_
              rintro _ _ rfl
              refine Ops.nil ?_
              refine H.then_normal ?_
              refine H.seq ?_
              refine H.conv (cs' := blk b9 [.slice A7 q7 c7, bol false] 78 :: blk b6 [num m.id, num m.gen, num m.born, num m.tries, num m.due, str m.frm, .slice none 0 0, .slice none 0 0, .slice none 0 0] 25 :: blk b4 [ptr b9] 76 :: blk b2 [num 0, num 0, num 0, num 0, num 0, str [], .slice none 0 0, .slice none 0 0, .slice none 0 0] 25 :: cs) (fun w hw => hw) ?_
              refine H.region ?_
              refine Ops.quiet (Qt.load rfl (tk rfl) rfl (by repeat (first | exact List.Mem.head _ | apply List.Mem.tail)) (by rfl)) rfl ?_
              refine Ops.quiet (Qt.load rfl (tk rfl) rfl (by repeat (first | exact List.Mem.head _ | apply List.Mem.tail)) (by rfl)) rfl ?_
              refine Ops.quiet (Qt.makeFunc rfl rfl) rfl ?_
              refine Ops.eff (Ef.call (fok fab_all rfl Tryz.func44 rfl) rfl (spec_blists w0 b9 m.rcpts (numB 2 m.marks.length ++ (mkB m.marks ++ (numB 4 m.body.length ++ (rcB m.body ++ [])))) 2 _ (by omega) (by omega) (by omega) (fun s hs => by have := mbox_len (hg.rc s hs); omega) (by repeat (first | assumption | exact Reads.of_head | apply Reads.tail)))) rfl ?_
              rintro _ _ ⟨A8, q8, c8, B1, d1, rfl, ad8, rfl⟩
              have hr8 : Reads w0 cs A8 q8 c8 ((numB 2 m.marks.length ++ (mkB m.marks ++ (numB 4 m.body.length ++ (rcB m.body ++ [])))).map u8v) := ad8.app (p := numB 2 m.rcpts.length ++ rcB m.rcpts) (by rw [List.append_assoc]; exact hr7) (by rw [List.length_append, numB_len])
              refine Ops.quiet (Qt.fieldAddr rfl (tk rfl) rfl) rfl ?_
              refine Ops.eff (Ef.store rfl rfl (tk rfl) rfl rfl (by repeat (first | exact ones_nil | refine ones_cons rfl ?_)) (by repeat (first | exact Upd.head | apply Upd.tail)) (by rfl)) rfl ?_
              rintro _ _ rfl
              refine Ops.nil ?_
              refine H.then_normal ?_
              refine H.seq ?_
              refine H.conv (cs' := blk b9 [.slice A8 q8 c8, bol false] 78 :: osl 9 B1 m.rcpts.length d1 (m.rcpts.map str) :: blk b6 [num m.id, num m.gen, num m.born, num m.tries, num m.due, str m.frm, .slice B1 m.rcpts.length d1, .slice none 0 0, .slice none 0 0] 25 :: blk b4 [ptr b9] 76 :: blk b2 [num 0, num 0, num 0, num 0, num 0, str [], .slice none 0 0, .slice none 0 0, .slice none 0 0] 25 :: cs) (fun w hw => hw) ?_
              refine H.region ?_
              refine Ops.quiet (Qt.load rfl (tk rfl) rfl (by repeat (first | exact List.Mem.head _ | apply List.Mem.tail)) (by rfl)) rfl ?_
              refine Ops.quiet (Qt.makeFunc rfl rfl) rfl ?_
              refine Ops.eff (Ef.call (fok fab_all rfl Tryz.func45 rfl) rfl (spec_blisti w0 b9 m.marks (numB 4 m.body.length ++ (rcB m.body ++ [])) 2 b4 _ (by omega) (by omega) (by omega) (fun s hs => hg.mks s hs) (by repeat (first | exact List.Mem.head _ | apply List.Mem.tail)) (by repeat (first | assumption | exact Reads.of_head | apply Reads.tail)))) rfl ?_
              rintro _ _ ⟨A9, q9, c9, B2, d2, rfl, ad9, rfl⟩
              have hr9 : Reads w0 cs A9 q9 c9 ((numB 4 m.body.length ++ (rcB m.body ++ [])).map u8v) := ad9.app (p := numB 2 m.marks.length ++ mkB m.marks) (by rw [List.append_assoc]; exact hr8) (by rw [List.length_append, numB_len])
              refine Ops.quiet (Qt.fieldAddr rfl (tk rfl) rfl) rfl ?_
              refine Ops.eff (Ef.store rfl rfl (tk rfl) rfl rfl (by repeat (first | exact ones_nil | refine ones_cons rfl ?_)) (by repeat (first | exact Upd.head | apply Upd.tail)) (by rfl)) rfl ?_
              rintro _ _ rfl
              refine Ops.nil ?_
              refine H.then_normal ?_
              refine H.seq ?_
              refine H.conv (cs' := blk b9 [.slice A9 q9 c9, bol false] 78 :: osl 3 B2 m.marks.length d2 (m.marks.map num) :: osl 9 B1 m.rcpts.length d1 (m.rcpts.map str) :: blk b6 [num m.id, num m.gen, num m.born, num m.tries, num m.due, str m.frm, .slice B1 m.rcpts.length d1, .slice B2 m.marks.length d2, .slice none 0 0] 25 :: blk b4 [ptr b9] 76 :: blk b2 [num 0, num 0, num 0, num 0, num 0, str [], .slice none 0 0, .slice none 0 0, .slice none 0 0] 25 :: cs) (fun w hw => hw) ?_
              refine H.region ?_
              refine Ops.quiet (Qt.load rfl (tk rfl) rfl (by repeat (first | exact List.Mem.head _ | apply List.Mem.tail)) (by rfl)) rfl ?_
              refine Ops.quiet (Qt.load rfl (tk rfl) rfl (by repeat (first | exact List.Mem.head _ | apply List.Mem.tail)) (by rfl)) rfl ?_
              refine Ops.quiet (Qt.makeFunc rfl rfl) rfl ?_
              refine Ops.eff (Ef.call (fok fab_all rfl Tryz.func44 rfl) rfl (spec_blists w0 b9 m.body [] 4 _ (by omega) (by omega) (by omega) (fun s hs => by have := okB_len (hok s hs); omega) (by repeat (first | assumption | exact Reads.of_head | apply Reads.tail)))) rfl ?_
              rintro _ _ ⟨A10, q10, c10, B3, d3, rfl, ad10, rfl⟩
              have hr10 : Reads w0 cs A10 q10 c10 (([] : Bs).map u8v) := ad10.app (p := numB 4 m.body.length ++ rcB m.body) (by rw [List.append_assoc]; exact hr9) (by rw [List.length_append, numB_len])
              refine Ops.quiet (Qt.fieldAddr rfl (tk rfl) rfl) rfl ?_
              refine Ops.eff (Ef.store rfl rfl (tk rfl) rfl rfl (by repeat (first | exact ones_nil | refine ones_cons rfl ?_)) (by repeat (first | exact Upd.head | apply Upd.tail)) (by rfl)) rfl ?_
              rintro _ _ rfl
              refine Ops.nil ?_
              refine H.then_normal ?_
              refine H.seq ?_
              refine H.seq ?_
              have hr11 : Reads w0 (blk b9 [.slice A10 q10 c10, bol false] 78 :: cs) A10 q10 c10 (([] : Bs).map u8v) := Reads.tail hr10
              refine H.fact (fun w hw => ((hr10 w (hw.sub (by repeat (first | exact List.Sublist.refl _ | exact List.nil_sublist _ | apply List.Sublist.cons_cons | apply List.Sublist.cons)))).len)) fun hq10 => ?_
              obtain rfl : q10 = 0 := hq10.symm
              refine H.conv (cs' := blk b9 [.slice A10 0 c10, bol false] 78 :: osl 9 B3 m.body.length d3 (m.body.map str) :: osl 3 B2 m.marks.length d2 (m.marks.map num) :: osl 9 B1 m.rcpts.length d1 (m.rcpts.map str) :: blk b6 [num m.id, num m.gen, num m.born, num m.tries, num m.due, str m.frm, .slice B1 m.rcpts.length d1, .slice B2 m.marks.length d2, .slice B3 m.body.length d3] 25 :: blk b4 [ptr b9] 76 :: blk b2 [num 0, num 0, num 0, num 0, num 0, str [], .slice none 0 0, .slice none 0 0, .slice none 0 0] 25 :: cs) (fun w hw => hw) ?_
              have hq := spec_egood w0 hG m ⟨⟨B1, m.rcpts.length, d1⟩, ⟨B2, m.marks.length, d2⟩, ⟨B3, m.body.length, d3⟩⟩ hb
              rw [goodM_iff.2 hg] at hq
              refine H.region ?_
              refine Ops.quiet (Qt.load rfl (tk rfl) rfl (by repeat (first | exact List.Mem.head _ | apply List.Mem.tail)) (by rfl)) rfl ?_
              refine Ops.quiet (Qt.nilCheck rfl) rfl ?_
              refine Ops.quiet (Qt.fieldAddr rfl (tk rfl) rfl) rfl ?_
              refine Ops.quiet (Qt.load rfl (tk rfl) rfl (by repeat (first | exact List.Mem.head _ | apply List.Mem.tail)) (by rfl)) rfl ?_
              refine Ops.quiet (Qt.move rfl) rfl ?_
              refine Ops.guard_yes rfl rfl rfl rfl rfl ?_
              refine Ops.quiet (Qt.move rfl) rfl ?_
              refine Ops.guard_yes rfl rfl rfl rfl rfl ?_
              refine Ops.quiet (Qt.neq rfl rfl) rfl ?_
              refine Ops.quiet (Qt.pick_f rfl rfl rfl) rfl ?_
              refine Ops.quiet (Qt.move rfl) rfl ?_
              refine Ops.guard_yes rfl rfl rfl rfl rfl ?_
              refine Ops.quiet (Qt.load rfl (tk rfl) rfl (by repeat (first | exact List.Mem.head _ | apply List.Mem.tail)) (by rfl)) rfl ?_
              refine Ops.guard_yes rfl rfl rfl rfl rfl ?_
              refine Ops.quiet (Qt.nilCheck rfl) rfl ?_
              refine Ops.guard_yes rfl rfl rfl rfl rfl ?_
              refine Ops.quiet (Qt.fieldAddr rfl (tk rfl) rfl) rfl ?_
              refine Ops.guard_yes rfl rfl rfl rfl rfl ?_
              refine Ops.quiet (Qt.load rfl (tk rfl) rfl (by repeat (first | exact List.Mem.head _ | apply List.Mem.tail)) (by rfl)) rfl ?_
              refine Ops.guard_yes rfl rfl rfl rfl rfl ?_
              refine Ops.quiet (Qt.len_sl (ats := #[]) rfl (tk rfl)) rfl ?_
              refine Ops.guard_yes rfl rfl rfl rfl rfl ?_
              refine Ops.quiet (Qt.gtr rfl rfl) rfl ?_
              refine Ops.quiet (Qt.pick_f rfl rfl rfl) rfl ?_
              refine Ops.quiet (Qt.move rfl) rfl ?_
              refine Ops.guard_yes rfl rfl rfl rfl rfl ?_
              refine Ops.quiet (Qt.load_agg rfl (tk rfl) rfl (by repeat (first | exact List.Mem.head _ | apply List.Mem.tail)) (by rfl) (by rfl)) rfl ?_
              refine Ops.guard_yes rfl rfl rfl rfl rfl ?_
              refine Ops.eff (Ef.call (fok fab_all rfl Tryz.func27 rfl) rfl (hq _ ⟨osl_reads (by repeat (first | exact List.Mem.head _ | apply List.Mem.tail)), osl_reads (by repeat (first | exact List.Mem.head _ | apply List.Mem.tail)), osl_reads (by repeat (first | exact List.Mem.head _ | apply List.Mem.tail))⟩)) rfl ?_
              rintro _ c0 ⟨rfl, h0⟩; subst c0
              refine Ops.guard_yes rfl rfl rfl rfl rfl ?_
              refine Ops.quiet (Qt.not rfl) rfl ?_
              refine Ops.quiet (Qt.pick_f rfl rfl rfl) rfl ?_
              refine Ops.nil ?_
              refine H.then_normal ?_
              refine H.cond_false rfl (by rfl) ?_
              refine H.skip ?_
              refine H.then_normal ?_
              refine H.seq ?_
              refine H.region ?_
              refine Ops.quiet (Qt.load_agg rfl (tk rfl) rfl (by repeat (first | exact List.Mem.head _ | apply List.Mem.tail)) (by rfl) (by rfl)) rfl ?_
              refine Ops.eff (Ef.store rfl rfl (tk rfl) rfl rfl (by repeat (first | exact ones_nil | refine ones_cons rfl ?_)) (by repeat (first | exact Upd.head | apply Upd.tail)) (by rfl)) rfl ?_
              rintro _ _ rfl
              refine Ops.quiet (Qt.assign rfl) rfl ?_
              refine Ops.nil ?_
              refine H.then_normal ?_
              refine H.ret ?_
              refine (H.ends_to (cs' := osl 9 B1 m.rcpts.length d1 (m.rcpts.map str) :: osl 3 B2 m.marks.length d2 (m.marks.map num) :: osl 9 B3 m.body.length d3 (m.body.map str) :: cs) rfl (.cons (.agg rfl (tk rfl) rfl (by repeat (first | exact List.Mem.head _ | apply List.Mem.tail)) (by rfl) (by rfl)) (.cons (.tmp rfl) .nil)) (fun w hw => ?_) ?_)
              · have h1 : Own w0 w (osl 9 B3 m.body.length d3 (m.body.map str) :: osl 3 B2 m.marks.length d2 (m.marks.map num) :: osl 9 B1 m.rcpts.length d1 (m.rcpts.map str) :: cs) := hw.sub (by repeat (first | exact List.Sublist.refl _ | exact List.nil_sublist _ | apply List.Sublist.cons_cons | apply List.Sublist.cons))
                exact h1.perm (List.Perm.append_right cs (List.reverse_perm [osl 9 B1 m.rcpts.length d1 (m.rcpts.map str), osl 3 B2 m.marks.length d2 (m.marks.map num), osl 9 B3 m.body.length d3 (m.body.map str)]))
              · exact ⟨⟨⟨B1, m.rcpts.length, d1⟩, ⟨B2, m.marks.length, d2⟩, ⟨B3, m.body.length, d3⟩⟩, rfl, rfl⟩
          · rintro _ _ ⟨b6, rfl, rfl⟩
            refine Hd.conv (fun w hw => hw.perm (.swap _ _ _)) ?_
            refine Hd.eff 9 (by intro w hw; first | exact hw | exact Own.sub (by repeat (first | exact List.Sublist.refl _ | exact List.nil_sublist _ | apply List.Sublist.cons_cons | apply List.Sublist.cons)) hw) rfl rfl (by kernel_rfl) rfl (Ef.call (fok fab_all rfl Tryz.func42 rfl) rfl (spec_bnumi w0 b9 _ 6 m.due _ (by omega) n5.1 (by omega) (by repeat (first | assumption | exact Reads.of_head | apply Reads.tail)))) ?_
            rintro _ _ ⟨A6, q6, c6, rfl, ad6, rfl⟩
            have hr6 : Reads w0 cs A6 q6 c6 ((txtB m.frm ++ (numB 2 m.rcpts.length ++ (rcB m.rcpts ++ (numB 2 m.marks.length ++ (mkB m.marks ++ (numB 4 m.body.length ++ (rcB m.body ++ []))))))).map u8v) := ad6.app hr5 (numB_len _ _)
            refine Hd.eff 11 (by intro w hw; first | exact hw | exact Own.sub (by repeat (first | exact List.Sublist.refl _ | exact List.nil_sublist _ | apply List.Sublist.cons_cons | apply List.Sublist.cons)) hw) rfl rfl (by kernel_rfl) rfl (Ef.call (fok fab_all rfl Tryz.func43 rfl) rfl (spec_btext w0 b9 m.frm _ _ (by omega) (by repeat (first | assumption | exact Reads.of_head | apply Reads.tail)))) ?_
            rintro _ _ ⟨A7, q7, c7, rfl, ad7, rfl⟩
            have hr7 : Reads w0 cs A7 q7 c7 ((numB 2 m.rcpts.length ++ (rcB m.rcpts ++ (numB 2 m.marks.length ++ (mkB m.marks ++ (numB 4 m.body.length ++ (rcB m.body ++ [])))))).map u8v) := ad7.app hr6 rfl
            refine Hd.quiet 12 (by kernel_rfl) rfl rfl (by kernel_rfl) rfl (Qt.build (tk rfl) (zk rfl) rfl (by rfl)) ?_
            refine Hd.tail (by intro w hw; first | exact hw | exact Own.sub (by repeat (first | exact List.Sublist.refl _ | exact List.nil_sublist _ | apply List.Sublist.cons_cons | apply List.Sublist.cons)) hw) (by kernel_rfl) rfl ?_
            refine Ops.eff (Ef.store rfl rfl (tk rfl) rfl rfl (by repeat (first | exact ones_nil | refine ones_cons rfl ?_)) (by repeat (first | exact Upd.head | apply Upd.tail)) (by rfl)) rfl ?_
            rintro _ _ rfl
            refine Ops.nil ?_
            refine H.then_normal ?_
            refine H.seq ?_
            refine H.conv (cs' := blk b9 [.slice A7 q7 c7, bol false] 78 :: blk b6 [num m.id, num m.gen, num m.born, num m.tries, num m.due, str m.frm, .slice none 0 0, .slice none 0 0, .slice none 0 0] 25 :: blk b4 [ptr b9] 76 :: blk b2 [num 0, num 0, num 0, num 0, num 0, str [], .slice none 0 0, .slice none 0 0, .slice none 0 0] 25 :: cs) (fun w hw => hw) ?_
            refine H.region ?_
            refine Ops.quiet (Qt.load rfl (tk rfl) rfl (by repeat (first | exact List.Mem.head _ | apply List.Mem.tail)) (by rfl)) rfl ?_
            refine Ops.quiet (Qt.load rfl (tk rfl) rfl (by repeat (first | exact List.Mem.head _ | apply List.Mem.tail)) (by rfl)) rfl ?_
            refine Ops.quiet (Qt.makeFunc rfl rfl) rfl ?_
            refine Ops.eff (Ef.call (fok fab_all rfl Tryz.func44 rfl) rfl (spec_blists w0 b9 m.rcpts (numB 2 m.marks.length ++ (mkB m.marks ++ (numB 4 m.body.length ++ (rcB m.body ++ [])))) 2 _ (by omega) (by omega) (by omega) (fun s hs => by have := mbox_len (hg.rc s hs); omega) (by repeat (first | assumption | exact Reads.of_head | apply Reads.tail)))) rfl ?_
            rintro _ _ ⟨A8, q8, c8, B1, d1, rfl, ad8, rfl⟩
            have hr8 : Reads w0 cs A8 q8 c8 ((numB 2 m.marks.length ++ (mkB m.marks ++ (numB 4 m.body.length ++ (rcB m.body ++ [])))).map u8v) := ad8.app (p := numB 2 m.rcpts.length ++ rcB m.rcpts) (by rw [List.append_assoc]; exact hr7) (by rw [List.length_append, numB_len])
            refine Ops.quiet (Qt.fieldAddr rfl (tk rfl) rfl) rfl ?_
            refine Ops.eff (Ef.store rfl rfl (tk rfl) rfl rfl (by repeat (first | exact ones_nil | refine ones_cons rfl ?_)) (by repeat (first | exact Upd.head | apply Upd.tail)) (by rfl)) rfl ?_
            rintro _ _ rfl
            refine Ops.nil ?_
            refine H.then_normal ?_
            refine H.seq ?_
            refine H.conv (cs' := blk b9 [.slice A8 q8 c8, bol false] 78 :: osl 9 B1 m.rcpts.length d1 (m.rcpts.map str) :: blk b6 [num m.id, num m.gen, num m.born, num m.tries, num m.due, str m.frm, .slice B1 m.rcpts.length d1, .slice none 0 0, .slice none 0 0] 25 :: blk b4 [ptr b9] 76 :: blk b2 [num 0, num 0, num 0, num 0, num 0, str [], .slice none 0 0, .slice none 0 0, .slice none 0 0] 25 :: cs) (fun w hw => hw) ?_
            refine H.region ?_
            refine Ops.quiet (Qt.load rfl (tk rfl) rfl (by repeat (first | exact List.Mem.head _ | apply List.Mem.tail)) (by rfl)) rfl ?_
            refine Ops.quiet (Qt.makeFunc rfl rfl) rfl ?_
            refine Ops.eff (Ef.call (fok fab_all rfl Tryz.func45 rfl) rfl (spec_blisti w0 b9 m.marks (numB 4 m.body.length ++ (rcB m.body ++ [])) 2 b4 _ (by omega) (by omega) (by omega) (fun s hs => hg.mks s hs) (by repeat (first | exact List.Mem.head _ | apply List.Mem.tail)) (by repeat (first | assumption | exact Reads.of_head | apply Reads.tail)))) rfl ?_
            rintro _ _ ⟨A9, q9, c9, B2, d2, rfl, ad9, rfl⟩
            have hr9 : Reads w0 cs A9 q9 c9 ((numB 4 m.body.length ++ (rcB m.body ++ [])).map u8v) := ad9.app (p := numB 2 m.marks.length ++ mkB m.marks) (by rw [List.append_assoc]; exact hr8) (by rw [List.length_append, numB_len])
            refine Ops.quiet (Qt.fieldAddr rfl (tk rfl) rfl) rfl ?_
            refine Ops.eff (Ef.store rfl rfl (tk rfl) rfl rfl (by repeat (first | exact ones_nil | refine ones_cons rfl ?_)) (by repeat (first | exact Upd.head | apply Upd.tail)) (by rfl)) rfl ?_
            rintro _ _ rfl
            refine Ops.nil ?_
            refine H.then_normal ?_
            refine H.seq ?_
            refine H.conv (cs' := blk b9 [.slice A9 q9 c9, bol false] 78 :: osl 3 B2 m.marks.length d2 (m.marks.map num) :: osl 9 B1 m.rcpts.length d1 (m.rcpts.map str) :: blk b6 [num m.id, num m.gen, num m.born, num m.tries, num m.due, str m.frm, .slice B1 m.rcpts.length d1, .slice B2 m.marks.length d2, .slice none 0 0] 25 :: blk b4 [ptr b9] 76 :: blk b2 [num 0, num 0, num 0, num 0, num 0, str [], .slice none 0 0, .slice none 0 0, .slice none 0 0] 25 :: cs) (fun w hw => hw) ?_
            refine H.region ?_
            refine Ops.quiet (Qt.load rfl (tk rfl) rfl (by repeat (first | exact List.Mem.head _ | apply List.Mem.tail)) (by rfl)) rfl ?_
            refine Ops.quiet (Qt.load rfl (tk rfl) rfl (by repeat (first | exact List.Mem.head _ | apply List.Mem.tail)) (by rfl)) rfl ?_
            refine Ops.quiet (Qt.makeFunc rfl rfl) rfl ?_
            refine Ops.eff (Ef.call (fok fab_all rfl Tryz.func44 rfl) rfl (spec_blists w0 b9 m.body [] 4 _ (by omega) (by omega) (by omega) (fun s hs => by have := okB_len (hok s hs); omega) (by repeat (first | assumption | exact Reads.of_head | apply Reads.tail)))) rfl ?_
            rintro _ _ ⟨A10, q10, c10, B3, d3, rfl, ad10, rfl⟩
            have hr10 : Reads w0 cs A10 q10 c10 (([] : Bs).map u8v) := ad10.app (p := numB 4 m.body.length ++ rcB m.body) (by rw [List.append_assoc]; exact hr9) (by rw [List.length_append, numB_len])
            refine Ops.quiet (Qt.fieldAddr rfl (tk rfl) rfl) rfl ?_
            refine Ops.eff (Ef.store rfl rfl (tk rfl) rfl rfl (by repeat (first | exact ones_nil | refine ones_cons rfl ?_)) (by repeat (first | exact Upd.head | apply Upd.tail)) (by rfl)) rfl ?_
            rintro _ _ rfl
            refine Ops.nil ?_
            refine H.then_normal ?_
            refine H.seq ?_
            refine H.seq ?_
            have hr11 : Reads w0 (blk b9 [.slice A10 q10 c10, bol false] 78 :: cs) A10 q10 c10 (([] : Bs).map u8v) := Reads.tail hr10
            refine H.fact (fun w hw => ((hr10 w (hw.sub (by repeat (first | exact List.Sublist.refl _ | exact List.nil_sublist _ | apply List.Sublist.cons_cons | apply List.Sublist.cons)))).len)) fun hq10 => ?_
            obtain rfl : q10 = 0 := hq10.symm
            refine H.conv (cs' := blk b9 [.slice A10 0 c10, bol false] 78 :: osl 9 B3 m.body.length d3 (m.body.map str) :: osl 3 B2 m.marks.length d2 (m.marks.map num) :: osl 9 B1 m.rcpts.length d1 (m.rcpts.map str) :: blk b6 [num m.id, num m.gen, num m.born, num m.tries, num m.due, str m.frm, .slice B1 m.rcpts.length d1, .slice B2 m.marks.length d2, .slice B3 m.body.length d3] 25 :: blk b4 [ptr b9] 76 :: blk b2 [num 0, num 0, num 0, num 0, num 0, str [], .slice none 0 0, .slice none 0 0, .slice none 0 0] 25 :: cs) (fun w hw => hw) ?_
            have hq := spec_egood w0 hG m ⟨⟨B1, m.rcpts.length, d1⟩, ⟨B2, m.marks.length, d2⟩, ⟨B3, m.body.length, d3⟩⟩ hb
            rw [goodM_iff.2 hg] at hq
            refine H.region ?_
            refine Ops.quiet (Qt.load rfl (tk rfl) rfl (by repeat (first | exact List.Mem.head _ | apply List.Mem.tail)) (by rfl)) rfl ?_
            refine Ops.quiet (Qt.nilCheck rfl) rfl ?_
            refine Ops.quiet (Qt.fieldAddr rfl (tk rfl) rfl) rfl ?_
            refine Ops.quiet (Qt.load rfl (tk rfl) rfl (by repeat (first | exact List.Mem.head _ | apply List.Mem.tail)) (by rfl)) rfl ?_
            refine Ops.quiet (Qt.move rfl) rfl ?_
            refine Ops.guard_yes rfl rfl rfl rfl rfl ?_
            refine Ops.quiet (Qt.move rfl) rfl ?_
            refine Ops.guard_yes rfl rfl rfl rfl rfl ?_
            refine Ops.quiet (Qt.neq rfl rfl) rfl ?_
            refine Ops.quiet (Qt.pick_f rfl rfl rfl) rfl ?_
            refine Ops.quiet (Qt.move rfl) rfl ?_
            refine Ops.guard_yes rfl rfl rfl rfl rfl ?_
            refine Ops.quiet (Qt.load rfl (tk rfl) rfl (by repeat (first | exact List.Mem.head _ | apply List.Mem.tail)) (by rfl)) rfl ?_
            refine Ops.guard_yes rfl rfl rfl rfl rfl ?_
            refine Ops.quiet (Qt.nilCheck rfl) rfl ?_
            refine Ops.guard_yes rfl rfl rfl rfl rfl ?_
            refine Ops.quiet (Qt.fieldAddr rfl (tk rfl) rfl) rfl ?_
            refine Ops.guard_yes rfl rfl rfl rfl rfl ?_
            refine Ops.quiet (Qt.load rfl (tk rfl) rfl (by repeat (first | exact List.Mem.head _ | apply List.Mem.tail)) (by rfl)) rfl ?_
            refine Ops.guard_yes rfl rfl rfl rfl rfl ?_
            refine Ops.quiet (Qt.len_sl (ats := #[]) rfl (tk rfl)) rfl ?_
            refine Ops.guard_yes rfl rfl rfl rfl rfl ?_
            refine Ops.quiet (Qt.gtr rfl rfl) rfl ?_
            refine Ops.quiet (Qt.pick_f rfl rfl rfl) rfl ?_
            refine Ops.quiet (Qt.move rfl) rfl ?_
            refine Ops.guard_yes rfl rfl rfl rfl rfl ?_
            refine Ops.quiet (Qt.load_agg rfl (tk rfl) rfl (by repeat (first | exact List.Mem.head _ | apply List.Mem.tail)) (by rfl) (by rfl)) rfl ?_
            refine Ops.guard_yes rfl rfl rfl rfl rfl ?_
            refine Ops.eff (Ef.call (fok fab_all rfl Tryz.func27 rfl) rfl (hq _ ⟨osl_reads (by repeat (first | exact List.Mem.head _ | apply List.Mem.tail)), osl_reads (by repeat (first | exact List.Mem.head _ | apply List.Mem.tail)), osl_reads (by repeat (first | exact List.Mem.head _ | apply List.Mem.tail))⟩)) rfl ?_
            rintro _ c0 ⟨rfl, h0⟩; subst c0
            refine Ops.guard_yes rfl rfl rfl rfl rfl ?_
            refine Ops.quiet (Qt.not rfl) rfl ?_
            refine Ops.quiet (Qt.pick_f rfl rfl rfl) rfl ?_
            refine Ops.nil ?_
            refine H.then_normal ?_
            refine H.cond_false rfl (by rfl) ?_
            refine H.skip ?_
            refine H.then_normal ?_
            refine H.seq ?_
            refine H.region ?_
            refine Ops.quiet (Qt.load_agg rfl (tk rfl) rfl (by repeat (first | exact List.Mem.head _ | apply List.Mem.tail)) (by rfl) (by rfl)) rfl ?_
            refine Ops.eff (Ef.store rfl rfl (tk rfl) rfl rfl (by repeat (first | exact ones_nil | refine ones_cons rfl ?_)) (by repeat (first | exact Upd.head | apply Upd.tail)) (by rfl)) rfl ?_
            rintro _ _ rfl
            refine Ops.quiet (Qt.assign rfl) rfl ?_
            refine Ops.nil ?_
            refine H.then_normal ?_
            refine H.ret ?_
            refine (H.ends_to (cs' := osl 9 B1 m.rcpts.length d1 (m.rcpts.map str) :: osl 3 B2 m.marks.length d2 (m.marks.map num) :: osl 9 B3 m.body.length d3 (m.body.map str) :: cs) rfl (.cons (.agg rfl (tk rfl) rfl (by repeat (first | exact List.Mem.head _ | apply List.Mem.tail)) (by rfl) (by rfl)) (.cons (.tmp rfl) .nil)) (fun w hw => ?_) ?_)
            · have h1 : Own w0 w (osl 9 B3 m.body.length d3 (m.body.map str) :: osl 3 B2 m.marks.length d2 (m.marks.map num) :: osl 9 B1 m.rcpts.length d1 (m.rcpts.map str) :: cs) := hw.sub (by repeat (first | exact List.Sublist.refl _ | exact List.nil_sublist _ | apply List.Sublist.cons_cons | apply List.Sublist.cons))
              exact h1.perm (List.Perm.append_right cs (List.reverse_perm [osl 9 B1 m.rcpts.length d1 (m.rcpts.map str), osl 3 B2 m.marks.length d2 (m.marks.map num), osl 9 B3 m.body.length d3 (m.body.map str)]))
            · exact ⟨⟨⟨B1, m.rcpts.length, d1⟩, ⟨B2, m.marks.length, d2⟩, ⟨B3, m.body.length, d3⟩⟩, rfl, rfl⟩
        · rintro _ _ ⟨b6, rfl, rfl⟩
          refine Hd.conv (fun w hw => hw.perm (.swap _ _ _)) ?_
          refine Hd.eff 7 (by intro w hw; first | exact hw | exact Own.sub (by repeat (first | exact List.Sublist.refl _ | exact List.nil_sublist _ | apply List.Sublist.cons_cons | apply List.Sublist.cons)) hw) rfl rfl (by kernel_rfl) rfl (Ef.call (fok fab_all rfl Tryz.func42 rfl) rfl (spec_bnumi w0 b9 _ 6 m.tries _ (by omega) n4.1 (by omega) (by repeat (first | assumption | exact Reads.of_head | apply Reads.tail)))) ?_
          rintro _ _ ⟨A5, q5, c5, rfl, ad5, rfl⟩
          have hr5 : Reads w0 cs A5 q5 c5 ((numB 6 m.due.toNat ++ (txtB m.frm ++ (numB 2 m.rcpts.length ++ (rcB m.rcpts ++ (numB 2 m.marks.length ++ (mkB m.marks ++ (numB 4 m.body.length ++ (rcB m.body ++ [])))))))).map u8v) := ad5.app hr4 (numB_len _ _)
          refine Hd.eff 9 (by intro w hw; first | exact hw | exact Own.sub (by repeat (first | exact List.Sublist.refl _ | exact List.nil_sublist _ | apply List.Sublist.cons_cons | apply List.Sublist.cons)) hw) rfl rfl (by kernel_rfl) rfl (Ef.call (fok fab_all rfl Tryz.func42 rfl) rfl (spec_bnumi w0 b9 _ 6 m.due _ (by omega) n5.1 (by omega) (by repeat (first | assumption | exact Reads.of_head | apply Reads.tail)))) ?_
          rintro _ _ ⟨A6, q6, c6, rfl, ad6, rfl⟩
          have hr6 : Reads w0 cs A6 q6 c6 ((txtB m.frm ++ (numB 2 m.rcpts.length ++ (rcB m.rcpts ++ (numB 2 m.marks.length ++ (mkB m.marks ++ (numB 4 m.body.length ++ (rcB m.body ++ []))))))).map u8v) := ad6.app hr5 (numB_len _ _)
          refine Hd.eff 11 (by intro w hw; first | exact hw | exact Own.sub (by repeat (first | exact List.Sublist.refl _ | exact List.nil_sublist _ | apply List.Sublist.cons_cons | apply List.Sublist.cons)) hw) rfl rfl (by kernel_rfl) rfl (Ef.call (fok fab_all rfl Tryz.func43 rfl) rfl (spec_btext w0 b9 m.frm _ _ (by omega) (by repeat (first | assumption | exact Reads.of_head | apply Reads.tail)))) ?_
          rintro _ _ ⟨A7, q7, c7, rfl, ad7, rfl⟩
          have hr7 : Reads w0 cs A7 q7 c7 ((numB 2 m.rcpts.length ++ (rcB m.rcpts ++ (numB 2 m.marks.length ++ (mkB m.marks ++ (numB 4 m.body.length ++ (rcB m.body ++ [])))))).map u8v) := ad7.app hr6 rfl
          refine Hd.quiet 12 (by kernel_rfl) rfl rfl (by kernel_rfl) rfl (Qt.build (tk rfl) (zk rfl) rfl (by rfl)) ?_
          refine Hd.tail (by intro w hw; first | exact hw | exact Own.sub (by repeat (first | exact List.Sublist.refl _ | exact List.nil_sublist _ | apply List.Sublist.cons_cons | apply List.Sublist.cons)) hw) (by kernel_rfl) rfl ?_
          refine Ops.eff (Ef.store rfl rfl (tk rfl) rfl rfl (by repeat (first | exact ones_nil | refine ones_cons rfl ?_)) (by repeat (first | exact Upd.head | apply Upd.tail)) (by rfl)) rfl ?_
          rintro _ _ rfl
          refine Ops.nil ?_
          refine H.then_normal ?_
          refine H.seq ?_
          refine H.conv (cs' := blk b9 [.slice A7 q7 c7, bol false] 78 :: blk b6 [num m.id, num m.gen, num m.born, num m.tries, num m.due, str m.frm, .slice none 0 0, .slice none 0 0, .slice none 0 0] 25 :: blk b4 [ptr b9] 76 :: blk b2 [num 0, num 0, num 0, num 0, num 0, str [], .slice none 0 0, .slice none 0 0, .slice none 0 0] 25 :: cs) (fun w hw => hw) ?_
          refine H.region ?_
          refine Ops.quiet (Qt.load rfl (tk rfl) rfl (by repeat (first | exact List.Mem.head _ | apply List.Mem.tail)) (by rfl)) rfl ?_
          refine Ops.quiet (Qt.load rfl (tk rfl) rfl (by repeat (first | exact List.Mem.head _ | apply List.Mem.tail)) (by rfl)) rfl ?_
          refine Ops.quiet (Qt.makeFunc rfl rfl) rfl ?_
          refine Ops.eff (Ef.call (fok fab_all rfl Tryz.func44 rfl) rfl (spec_blists w0 b9 m.rcpts (numB 2 m.marks.length ++ (mkB m.marks ++ (numB 4 m.body.length ++ (rcB m.body ++ [])))) 2 _ (by omega) (by omega) (by omega) (fun s hs => by have := mbox_len (hg.rc s hs); omega) (by repeat (first | assumption | exact Reads.of_head | apply Reads.tail)))) rfl ?_
          rintro _ _ ⟨A8, q8, c8, B1, d1, rfl, ad8, rfl⟩
          have hr8 : Reads w0 cs A8 q8 c8 ((numB 2 m.marks.length ++ (mkB m.marks ++ (numB 4 m.body.length ++ (rcB m.body ++ [])))).map u8v) := ad8.app (p := numB 2 m.rcpts.length ++ rcB m.rcpts) (by rw [List.append_assoc]; exact hr7) (by rw [List.length_append, numB_len])
          refine Ops.quiet (Qt.fieldAddr rfl (tk rfl) rfl) rfl ?_
          refine Ops.eff (Ef.store rfl rfl (tk rfl) rfl rfl (by repeat (first | exact ones_nil | refine ones_cons rfl ?_)) (by repeat (first | exact Upd.head | apply Upd.tail)) (by rfl)) rfl ?_
          rintro _ _ rfl
          refine Ops.nil ?_
          refine H.then_normal ?_
          refine H.seq ?_
          refine H.conv (cs' := blk b9 [.slice A8 q8 c8, bol false] 78 :: osl 9 B1 m.rcpts.length d1 (m.rcpts.map str) :: blk b6 [num m.id, num m.gen, num m.born, num m.tries, num m.due, str m.frm, .slice B1 m.rcpts.length d1, .slice none 0 0, .slice none 0 0] 25 :: blk b4 [ptr b9] 76 :: blk b2 [num 0, num 0, num 0, num 0, num 0, str [], .slice none 0 0, .slice none 0 0, .slice none 0 0] 25 :: cs) (fun w hw => hw) ?_
          refine H.region ?_
          refine Ops.quiet (Qt.load rfl (tk rfl) rfl (by repeat (first | exact List.Mem.head _ | apply List.Mem.tail)) (by rfl)) rfl ?_
          refine Ops.quiet (Qt.makeFunc rfl rfl) rfl ?_
          refine Ops.eff (Ef.call (fok fab_all rfl Tryz.func45 rfl) rfl (spec_blisti w0 b9 m.marks (numB 4 m.body.length ++ (rcB m.body ++ [])) 2 b4 _ (by omega) (by omega) (by omega) (fun s hs => hg.mks s hs) (by repeat (first | exact List.Mem.head _ | apply List.Mem.tail)) (by repeat (first | assumption | exact Reads.of_head | apply Reads.tail)))) rfl ?_
          rintro _ _ ⟨A9, q9, c9, B2, d2, rfl, ad9, rfl⟩
          have hr9 : Reads w0 cs A9 q9 c9 ((numB 4 m.body.length ++ (rcB m.body ++ [])).map u8v) := ad9.app (p := numB 2 m.marks.length ++ mkB m.marks) (by rw [List.append_assoc]; exact hr8) (by rw [List.length_append, numB_len])
          refine Ops.quiet (Qt.fieldAddr rfl (tk rfl) rfl) rfl ?_
          refine Ops.eff (Ef.store rfl rfl (tk rfl) rfl rfl (by repeat (first | exact ones_nil | refine ones_cons rfl ?_)) (by repeat (first | exact Upd.head | apply Upd.tail)) (by rfl)) rfl ?_
          rintro _ _ rfl
          refine Ops.nil ?_
          refine H.then_normal ?_
          refine H.seq ?_
          refine H.conv (cs' := blk b9 [.slice A9 q9 c9, bol false] 78 :: osl 3 B2 m.marks.length d2 (m.marks.map num) :: osl 9 B1 m.rcpts.length d1 (m.rcpts.map str) :: blk b6 [num m.id, num m.gen, num m.born, num m.tries, num m.due, str m.frm, .slice B1 m.rcpts.length d1, .slice B2 m.marks.length d2, .slice none 0 0] 25 :: blk b4 [ptr b9] 76 :: blk b2 [num 0, num 0, num 0, num 0, num 0, str [], .slice none 0 0, .slice none 0 0, .slice none 0 0] 25 :: cs) (fun w hw => hw) ?_
          refine H.region ?_
          refine Ops.quiet (Qt.load rfl (tk rfl) rfl (by repeat (first | exact List.Mem.head _ | apply List.Mem.tail)) (by rfl)) rfl ?_
          refine Ops.quiet (Qt.load rfl (tk rfl) rfl (by repeat (first | exact List.Mem.head _ | apply List.Mem.tail)) (by rfl)) rfl ?_
          refine Ops.quiet (Qt.makeFunc rfl rfl) rfl ?_
          refine Ops.eff (Ef.call (fok fab_all rfl Tryz.func44 rfl) rfl (spec_blists w0 b9 m.body [] 4 _ (by omega) (by omega) (by omega) (fun s hs => by have := okB_len (hok s hs); omega) (by repeat (first | assumption | exact Reads.of_head | apply Reads.tail)))) rfl ?_
          rintro _ _ ⟨A10, q10, c10, B3, d3, rfl, ad10, rfl⟩
          have hr10 : Reads w0 cs A10 q10 c10 (([] : Bs).map u8v) := ad10.app (p := numB 4 m.body.length ++ rcB m.body) (by rw [List.append_assoc]; exact hr9) (by rw [List.length_append, numB_len])
          refine Ops.quiet (Qt.fieldAddr rfl (tk rfl) rfl) rfl ?_
          refine Ops.eff (Ef.store rfl rfl (tk rfl) rfl rfl (by repeat (first | exact ones_nil | refine ones_cons rfl ?_)) (by repeat (first | exact Upd.head | apply Upd.tail)) (by rfl)) rfl ?_
          rintro _ _ rfl
          refine Ops.nil ?_
          refine H.then_normal ?_
          refine H.seq ?_
          refine H.seq ?_
          have hr11 : Reads w0 (blk b9 [.slice A10 q10 c10, bol false] 78 :: cs) A10 q10 c10 (([] : Bs).map u8v) := Reads.tail hr10
          refine H.fact (fun w hw => ((hr10 w (hw.sub (by repeat (first | exact List.Sublist.refl _ | exact List.nil_sublist _ | apply List.Sublist.cons_cons | apply List.Sublist.cons)))).len)) fun hq10 => ?_
          obtain rfl : q10 = 0 := hq10.symm
          refine H.conv (cs' := blk b9 [.slice A10 0 c10, bol false] 78 :: osl 9 B3 m.body.length d3 (m.body.map str) :: osl 3 B2 m.marks.length d2 (m.marks.map num) :: osl 9 B1 m.rcpts.length d1 (m.rcpts.map str) :: blk b6 [num m.id, num m.gen, num m.born, num m.tries, num m.due, str m.frm, .slice B1 m.rcpts.length d1, .slice B2 m.marks.length d2, .slice B3 m.body.length d3] 25 :: blk b4 [ptr b9] 76 :: blk b2 [num 0, num 0, num 0, num 0, num 0, str [], .slice none 0 0, .slice none 0 0, .slice none 0 0] 25 :: cs) (fun w hw => hw) ?_
          have hq := spec_egood w0 hG m ⟨⟨B1, m.rcpts.length, d1⟩, ⟨B2, m.marks.length, d2⟩, ⟨B3, m.body.length, d3⟩⟩ hb
          rw [goodM_iff.2 hg] at hq
          refine H.region ?_
          refine Ops.quiet (Qt.load rfl (tk rfl) rfl (by repeat (first | exact List.Mem.head _ | apply List.Mem.tail)) (by rfl)) rfl ?_
          refine Ops.quiet (Qt.nilCheck rfl) rfl ?_
          refine Ops.quiet (Qt.fieldAddr rfl (tk rfl) rfl) rfl ?_
          refine Ops.quiet (Qt.load rfl (tk rfl) rfl (by repeat (first | exact List.Mem.head _ | apply List.Mem.tail)) (by rfl)) rfl ?_
          refine Ops.quiet (Qt.move rfl) rfl ?_
          refine Ops.guard_yes rfl rfl rfl rfl rfl ?_
          refine Ops.quiet (Qt.move rfl) rfl ?_
          refine Ops.guard_yes rfl rfl rfl rfl rfl ?_
          refine Ops.quiet (Qt.neq rfl rfl) rfl ?_
          refine Ops.quiet (Qt.pick_f rfl rfl rfl) rfl ?_
          refine Ops.quiet (Qt.move rfl) rfl ?_
          refine Ops.guard_yes rfl rfl rfl rfl rfl ?_
          refine Ops.quiet (Qt.load rfl (tk rfl) rfl (by repeat (first | exact List.Mem.head _ | apply List.Mem.tail)) (by rfl)) rfl ?_
          refine Ops.guard_yes rfl rfl rfl rfl rfl ?_
          refine Ops.quiet (Qt.nilCheck rfl) rfl ?_
          refine Ops.guard_yes rfl rfl rfl rfl rfl ?_
          refine Ops.quiet (Qt.fieldAddr rfl (tk rfl) rfl) rfl ?_
          refine Ops.guard_yes rfl rfl rfl rfl rfl ?_
          refine Ops.quiet (Qt.load rfl (tk rfl) rfl (by repeat (first | exact List.Mem.head _ | apply List.Mem.tail)) (by rfl)) rfl ?_
          refine Ops.guard_yes rfl rfl rfl rfl rfl ?_
          refine Ops.quiet (Qt.len_sl (ats := #[]) rfl (tk rfl)) rfl ?_
          refine Ops.guard_yes rfl rfl rfl rfl rfl ?_
          refine Ops.quiet (Qt.gtr rfl rfl) rfl ?_
          refine Ops.quiet (Qt.pick_f rfl rfl rfl) rfl ?_
          refine Ops.quiet (Qt.move rfl) rfl ?_
          refine Ops.guard_yes rfl rfl rfl rfl rfl ?_
          refine Ops.quiet (Qt.load_agg rfl (tk rfl) rfl (by repeat (first | exact List.Mem.head _ | apply List.Mem.tail)) (by rfl) (by rfl)) rfl ?_
          refine Ops.guard_yes rfl rfl rfl rfl rfl ?_
          refine Ops.eff (Ef.call (fok fab_all rfl Tryz.func27 rfl) rfl (hq _ ⟨osl_reads (by repeat (first | exact List.Mem.head _ | apply List.Mem.tail)), osl_reads (by repeat (first | exact List.Mem.head _ | apply List.Mem.tail)), osl_reads (by repeat (first | exact List.Mem.head _ | apply List.Mem.tail))⟩)) rfl ?_
          rintro _ c0 ⟨rfl, h0⟩; subst c0
          refine Ops.guard_yes rfl rfl rfl rfl rfl ?_
          refine Ops.quiet (Qt.not rfl) rfl ?_
          refine Ops.quiet (Qt.pick_f rfl rfl rfl) rfl ?_
          refine Ops.nil ?_
          refine H.then_normal ?_
          refine H.cond_false rfl (by rfl) ?_
          refine H.skip ?_
          refine H.then_normal ?_
          refine H.seq ?_
          refine H.region ?_
          refine Ops.quiet (Qt.load_agg rfl (tk rfl) rfl (by repeat (first | exact List.Mem.head _ | apply List.Mem.tail)) (by rfl) (by rfl)) rfl ?_
          refine Ops.eff (Ef.store rfl rfl (tk rfl) rfl rfl (by repeat (first | exact ones_nil | refine ones_cons rfl ?_)) (by repeat (first | exact Upd.head | apply Upd.tail)) (by rfl)) rfl ?_
          rintro _ _ rfl
          refine Ops.quiet (Qt.assign rfl) rfl ?_
          refine Ops.nil ?_
          refine H.then_normal ?_
          refine H.ret ?_
          refine (H.ends_to (cs' := osl 9 B1 m.rcpts.length d1 (m.rcpts.map str) :: osl 3 B2 m.marks.length d2 (m.marks.map num) :: osl 9 B3 m.body.length d3 (m.body.map str) :: cs) rfl (.cons (.agg rfl (tk rfl) rfl (by repeat (first | exact List.Mem.head _ | apply List.Mem.tail)) (by rfl) (by rfl)) (.cons (.tmp rfl) .nil)) (fun w hw => ?_) ?_)
          · have h1 : Own w0 w (osl 9 B3 m.body.length d3 (m.body.map str) :: osl 3 B2 m.marks.length d2 (m.marks.map num) :: osl 9 B1 m.rcpts.length d1 (m.rcpts.map str) :: cs) := hw.sub (by repeat (first | exact List.Sublist.refl _ | exact List.nil_sublist _ | apply List.Sublist.cons_cons | apply List.Sublist.cons))
            exact h1.perm (List.Perm.append_right cs (List.reverse_perm [osl 9 B1 m.rcpts.length d1 (m.rcpts.map str), osl 3 B2 m.marks.length d2 (m.marks.map num), osl 9 B3 m.body.length d3 (m.body.map str)]))
          · exact ⟨⟨⟨B1, m.rcpts.length, d1⟩, ⟨B2, m.marks.length, d2⟩, ⟨B3, m.body.length, d3⟩⟩, rfl, rfl⟩
      · rintro _ _ ⟨b6, rfl, rfl⟩
        refine Hd.conv (fun w hw => hw.perm (.swap _ _ _)) ?_
        refine Hd.eff 5 (by intro w hw; first | exact hw | exact Own.sub (by repeat (first | exact List.Sublist.refl _ | exact List.nil_sublist _ | apply List.Sublist.cons_cons | apply List.Sublist.cons)) hw) rfl rfl (by kernel_rfl) rfl (Ef.call (fok fab_all rfl Tryz.func42 rfl) rfl (spec_bnumi w0 b9 _ 6 m.born _ (by omega) n3.1 (by omega) (by repeat (first | assumption | exact Reads.of_head | apply Reads.tail)))) ?_
        rintro _ _ ⟨A4, q4, c4, rfl, ad4, rfl⟩
        have hr4 : Reads w0 cs A4 q4 c4 ((numB 6 m.tries.toNat ++ (numB 6 m.due.toNat ++ (txtB m.frm ++ (numB 2 m.rcpts.length ++ (rcB m.rcpts ++ (numB 2 m.marks.length ++ (mkB m.marks ++ (numB 4 m.body.length ++ (rcB m.body ++ []))))))))).map u8v) := ad4.app hr3 (numB_len _ _)
        refine Hd.eff 7 (by intro w hw; first | exact hw | exact Own.sub (by repeat (first | exact List.Sublist.refl _ | exact List.nil_sublist _ | apply List.Sublist.cons_cons | apply List.Sublist.cons)) hw) rfl rfl (by kernel_rfl) rfl (Ef.call (fok fab_all rfl Tryz.func42 rfl) rfl (spec_bnumi w0 b9 _ 6 m.tries _ (by omega) n4.1 (by omega) (by repeat (first | assumption | exact Reads.of_head | apply Reads.tail)))) ?_
        rintro _ _ ⟨A5, q5, c5, rfl, ad5, rfl⟩
        have hr5 : Reads w0 cs A5 q5 c5 ((numB 6 m.due.toNat ++ (txtB m.frm ++ (numB 2 m.rcpts.length ++ (rcB m.rcpts ++ (numB 2 m.marks.length ++ (mkB m.marks ++ (numB 4 m.body.length ++ (rcB m.body ++ [])))))))).map u8v) := ad5.app hr4 (numB_len _ _)
        refine Hd.eff 9 (by intro w hw; first | exact hw | exact Own.sub (by repeat (first | exact List.Sublist.refl _ | exact List.nil_sublist _ | apply List.Sublist.cons_cons | apply List.Sublist.cons)) hw) rfl rfl (by kernel_rfl) rfl (Ef.call (fok fab_all rfl Tryz.func42 rfl) rfl (spec_bnumi w0 b9 _ 6 m.due _ (by omega) n5.1 (by omega) (by repeat (first | assumption | exact Reads.of_head | apply Reads.tail)))) ?_
        rintro _ _ ⟨A6, q6, c6, rfl, ad6, rfl⟩
        have hr6 : Reads w0 cs A6 q6 c6 ((txtB m.frm ++ (numB 2 m.rcpts.length ++ (rcB m.rcpts ++ (numB 2 m.marks.length ++ (mkB m.marks ++ (numB 4 m.body.length ++ (rcB m.body ++ []))))))).map u8v) := ad6.app hr5 (numB_len _ _)
        refine Hd.eff 11 (by intro w hw; first | exact hw | exact Own.sub (by repeat (first | exact List.Sublist.refl _ | exact List.nil_sublist _ | apply List.Sublist.cons_cons | apply List.Sublist.cons)) hw) rfl rfl (by kernel_rfl) rfl (Ef.call (fok fab_all rfl Tryz.func43 rfl) rfl (spec_btext w0 b9 m.frm _ _ (by omega) (by repeat (first | assumption | exact Reads.of_head | apply Reads.tail)))) ?_
        rintro _ _ ⟨A7, q7, c7, rfl, ad7, rfl⟩
        have hr7 : Reads w0 cs A7 q7 c7 ((numB 2 m.rcpts.length ++ (rcB m.rcpts ++ (numB 2 m.marks.length ++ (mkB m.marks ++ (numB 4 m.body.length ++ (rcB m.body ++ [])))))).map u8v) := ad7.app hr6 rfl
        refine Hd.quiet 12 (by kernel_rfl) rfl rfl (by kernel_rfl) rfl (Qt.build (tk rfl) (zk rfl) rfl (by rfl)) ?_
        refine Hd.tail (by intro w hw; first | exact hw | exact Own.sub (by repeat (first | exact List.Sublist.refl _ | exact List.nil_sublist _ | apply List.Sublist.cons_cons | apply List.Sublist.cons)) hw) (by kernel_rfl) rfl ?_
        refine Ops.eff (Ef.store rfl rfl (tk rfl) rfl rfl (by repeat (first | exact ones_nil | refine ones_cons rfl ?_)) (by repeat (first | exact Upd.head | apply Upd.tail)) (by rfl)) rfl ?_
        rintro _ _ rfl
        refine Ops.nil ?_
        refine H.then_normal ?_
        refine H.seq ?_
        refine H.conv (cs' := blk b9 [.slice A7 q7 c7, bol false] 78 :: blk b6 [num m.id, num m.gen, num m.born, num m.tries, num m.due, str m.frm, .slice none 0 0, .slice none 0 0, .slice none 0 0] 25 :: blk b4 [ptr b9] 76 :: blk b2 [num 0, num 0, num 0, num 0, num 0, str [], .slice none 0 0, .slice none 0 0, .slice none 0 0] 25 :: cs) (fun w hw => hw) ?_
        refine H.region ?_
        refine Ops.quiet (Qt.load rfl (tk rfl) rfl (by repeat (first | exact List.Mem.head _ | apply List.Mem.tail)) (by rfl)) rfl ?_
        refine Ops.quiet (Qt.load rfl (tk rfl) rfl (by repeat (first | exact List.Mem.head _ | apply List.Mem.tail)) (by rfl)) rfl ?_
        refine Ops.quiet (Qt.makeFunc rfl rfl) rfl ?_
        refine Ops.eff (Ef.call (fok fab_all rfl Tryz.func44 rfl) rfl (spec_blists w0 b9 m.rcpts (numB 2 m.marks.length ++ (mkB m.marks ++ (numB 4 m.body.length ++ (rcB m.body ++ [])))) 2 _ (by omega) (by omega) (by omega) (fun s hs => by have := mbox_len (hg.rc s hs); omega) (by repeat (first | assumption | exact Reads.of_head | apply Reads.tail)))) rfl ?_
        rintro _ _ ⟨A8, q8, c8, B1, d1, rfl, ad8, rfl⟩
        have hr8 : Reads w0 cs A8 q8 c8 ((numB 2 m.marks.length ++ (mkB m.marks ++ (numB 4 m.body.length ++ (rcB m.body ++ [])))).map u8v) := ad8.app (p := numB 2 m.rcpts.length ++ rcB m.rcpts) (by rw [List.append_assoc]; exact hr7) (by rw [List.length_append, numB_len])
        refine Ops.quiet (Qt.fieldAddr rfl (tk rfl) rfl) rfl ?_
        refine Ops.eff (Ef.store rfl rfl (tk rfl) rfl rfl (by repeat (first | exact ones_nil | refine ones_cons rfl ?_)) (by repeat (first | exact Upd.head | apply Upd.tail)) (by rfl)) rfl ?_
        rintro _ _ rfl
        refine Ops.nil ?_
        refine H.then_normal ?_
        refine H.seq ?_
        refine H.conv (cs' := blk b9 [.slice A8 q8 c8, bol false] 78 :: osl 9 B1 m.rcpts.length d1 (m.rcpts.map str) :: blk b6 [num m.id, num m.gen, num m.born, num m.tries, num m.due, str m.frm, .slice B1 m.rcpts.length d1, .slice none 0 0, .slice none 0 0] 25 :: blk b4 [ptr b9] 76 :: blk b2 [num 0, num 0, num 0, num 0, num 0, str [], .slice none 0 0, .slice none 0 0, .slice none 0 0] 25 :: cs) (fun w hw => hw) ?_
        refine H.region ?_
        refine Ops.quiet (Qt.load rfl (tk rfl) rfl (by repeat (first | exact List.Mem.head _ | apply List.Mem.tail)) (by rfl)) rfl ?_
        refine Ops.quiet (Qt.makeFunc rfl rfl) rfl ?_
        refine Ops.eff (Ef.call (fok fab_all rfl Tryz.func45 rfl) rfl (spec_blisti w0 b9 m.marks (numB 4 m.body.length ++ (rcB m.body ++ [])) 2 b4 _ (by omega) (by omega) (by omega) (fun s hs => hg.mks s hs) (by repeat (first | exact List.Mem.head _ | apply List.Mem.tail)) (by repeat (first | assumption | exact Reads.of_head | apply Reads.tail)))) rfl ?_
        rintro _ _ ⟨A9, q9, c9, B2, d2, rfl, ad9, rfl⟩
        have hr9 : Reads w0 cs A9 q9 c9 ((numB 4 m.body.length ++ (rcB m.body ++ [])).map u8v) := ad9.app (p := numB 2 m.marks.length ++ mkB m.marks) (by rw [List.append_assoc]; exact hr8) (by rw [List.length_append, numB_len])
        refine Ops.quiet (Qt.fieldAddr rfl (tk rfl) rfl) rfl ?_
        refine Ops.eff (Ef.store rfl rfl (tk rfl) rfl rfl (by repeat (first | exact ones_nil | refine ones_cons rfl ?_)) (by repeat (first | exact Upd.head | apply Upd.tail)) (by rfl)) rfl ?_
        rintro _ _ rfl
        refine Ops.nil ?_
        refine H.then_normal ?_
        refine H.seq ?_
        refine H.conv (cs' := blk b9 [.slice A9 q9 c9, bol false] 78 :: osl 3 B2 m.marks.length d2 (m.marks.map num) :: osl 9 B1 m.rcpts.length d1 (m.rcpts.map str) :: blk b6 [num m.id, num m.gen, num m.born, num m.tries, num m.due, str m.frm, .slice B1 m.rcpts.length d1, .slice B2 m.marks.length d2, .slice none 0 0] 25 :: blk b4 [ptr b9] 76 :: blk b2 [num 0, num 0, num 0, num 0, num 0, str [], .slice none 0 0, .slice none 0 0, .slice none 0 0] 25 :: cs) (fun w hw => hw) ?_
        refine H.region ?_
        refine Ops.quiet (Qt.load rfl (tk rfl) rfl (by repeat (first | exact List.Mem.head _ | apply List.Mem.tail)) (by rfl)) rfl ?_
        refine Ops.quiet (Qt.load rfl (tk rfl) rfl (by repeat (first | exact List.Mem.head _ | apply List.Mem.tail)) (by rfl)) rfl ?_
        refine Ops.quiet (Qt.makeFunc rfl rfl) rfl ?_
        refine Ops.eff (Ef.call (fok fab_all rfl Tryz.func44 rfl) rfl (spec_blists w0 b9 m.body [] 4 _ (by omega) (by omega) (by omega) (fun s hs => by have := okB_len (hok s hs); omega) (by repeat (first | assumption | exact Reads.of_head | apply Reads.tail)))) rfl ?_
        rintro _ _ ⟨A10, q10, c10, B3, d3, rfl, ad10, rfl⟩
        have hr10 : Reads w0 cs A10 q10 c10 (([] : Bs).map u8v) := ad10.app (p := numB 4 m.body.length ++ rcB m.body) (by rw [List.append_assoc]; exact hr9) (by rw [List.length_append, numB_len])
        refine Ops.quiet (Qt.fieldAddr rfl (tk rfl) rfl) rfl ?_
        refine Ops.eff (Ef.store rfl rfl (tk rfl) rfl rfl (by repeat (first | exact ones_nil | refine ones_cons rfl ?_)) (by repeat (first | exact Upd.head | apply Upd.tail)) (by rfl)) rfl ?_
        rintro _ _ rfl
        refine Ops.nil ?_
        refine H.then_normal ?_
        refine H.seq ?_
        refine H.seq ?_
        have hr11 : Reads w0 (blk b9 [.slice A10 q10 c10, bol false] 78 :: cs) A10 q10 c10 (([] : Bs).map u8v) := Reads.tail hr10
        refine H.fact (fun w hw => ((hr10 w (hw.sub (by repeat (first | exact List.Sublist.refl _ | exact List.nil_sublist _ | apply List.Sublist.cons_cons | apply List.Sublist.cons)))).len)) fun hq10 => ?_
        obtain rfl : q10 = 0 := hq10.symm
        refine H.conv (cs' := blk b9 [.slice A10 0 c10, bol false] 78 :: osl 9 B3 m.body.length d3 (m.body.map str) :: osl 3 B2 m.marks.length d2 (m.marks.map num) :: osl 9 B1 m.rcpts.length d1 (m.rcpts.map str) :: blk b6 [num m.id, num m.gen, num m.born, num m.tries, num m.due, str m.frm, .slice B1 m.rcpts.length d1, .slice B2 m.marks.length d2, .slice B3 m.body.length d3] 25 :: blk b4 [ptr b9] 76 :: blk b2 [num 0, num 0, num 0, num 0, num 0, str [], .slice none 0 0, .slice none 0 0, .slice none 0 0] 25 :: cs) (fun w hw => hw) ?_
        have hq := spec_egood w0 hG m ⟨⟨B1, m.rcpts.length, d1⟩, ⟨B2, m.marks.length, d2⟩, ⟨B3, m.body.length, d3⟩⟩ hb
        rw [goodM_iff.2 hg] at hq
        refine H.region ?_
        refine Ops.quiet (Qt.load rfl (tk rfl) rfl (by repeat (first | exact List.Mem.head _ | apply List.Mem.tail)) (by rfl)) rfl ?_
        refine Ops.quiet (Qt.nilCheck rfl) rfl ?_
        refine Ops.quiet (Qt.fieldAddr rfl (tk rfl) rfl) rfl ?_
        refine Ops.quiet (Qt.load rfl (tk rfl) rfl (by repeat (first | exact List.Mem.head _ | apply List.Mem.tail)) (by rfl)) rfl ?_
        refine Ops.quiet (Qt.move rfl) rfl ?_
        refine Ops.guard_yes rfl rfl rfl rfl rfl ?_
        refine Ops.quiet (Qt.move rfl) rfl ?_
        refine Ops.guard_yes rfl rfl rfl rfl rfl ?_
        refine Ops.quiet (Qt.neq rfl rfl) rfl ?_
        refine Ops.quiet (Qt.pick_f rfl rfl rfl) rfl ?_
        refine Ops.quiet (Qt.move rfl) rfl ?_
        refine Ops.guard_yes rfl rfl rfl rfl rfl ?_
        refine Ops.quiet (Qt.load rfl (tk rfl) rfl (by repeat (first | exact List.Mem.head _ | apply List.Mem.tail)) (by rfl)) rfl ?_
        refine Ops.guard_yes rfl rfl rfl rfl rfl ?_
        refine Ops.quiet (Qt.nilCheck rfl) rfl ?_
        refine Ops.guard_yes rfl rfl rfl rfl rfl ?_
        refine Ops.quiet (Qt.fieldAddr rfl (tk rfl) rfl) rfl ?_
        refine Ops.guard_yes rfl rfl rfl rfl rfl ?_
        refine Ops.quiet (Qt.load rfl (tk rfl) rfl (by repeat (first | exact List.Mem.head _ | apply List.Mem.tail)) (by rfl)) rfl ?_
        refine Ops.guard_yes rfl rfl rfl rfl rfl ?_
        refine Ops.quiet (Qt.len_sl (ats := #[]) rfl (tk rfl)) rfl ?_
        refine Ops.guard_yes rfl rfl rfl rfl rfl ?_
        refine Ops.quiet (Qt.gtr rfl rfl) rfl ?_
        refine Ops.quiet (Qt.pick_f rfl rfl rfl) rfl ?_
        refine Ops.quiet (Qt.move rfl) rfl ?_
        refine Ops.guard_yes rfl rfl rfl rfl rfl ?_
        refine Ops.quiet (Qt.load_agg rfl (tk rfl) rfl (by repeat (first | exact List.Mem.head _ | apply List.Mem.tail)) (by rfl) (by rfl)) rfl ?_
        refine Ops.guard_yes rfl rfl rfl rfl rfl ?_
        refine Ops.eff (Ef.call (fok fab_all rfl Tryz.func27 rfl) rfl (hq _ ⟨osl_reads (by repeat (first | exact List.Mem.head _ | apply List.Mem.tail)), osl_reads (by repeat (first | exact List.Mem.head _ | apply List.Mem.tail)), osl_reads (by repeat (first | exact List.Mem.head _ | apply List.Mem.tail))⟩)) rfl ?_
        rintro _ c0 ⟨rfl, h0⟩; subst c0
        refine Ops.guard_yes rfl rfl rfl rfl rfl ?_
        refine Ops.quiet (Qt.not rfl) rfl ?_
        refine Ops.quiet (Qt.pick_f rfl rfl rfl) rfl ?_
        refine Ops.nil ?_
        refine H.then_normal ?_
        refine H.cond_false rfl (by rfl) ?_
        refine H.skip ?_
        refine H.then_normal ?_
        refine H.seq ?_
        refine H.region ?_
        refine Ops.quiet (Qt.load_agg rfl (tk rfl) rfl (by repeat (first | exact List.Mem.head _ | apply List.Mem.tail)) (by rfl) (by rfl)) rfl ?_
        refine Ops.eff (Ef.store rfl rfl (tk rfl) rfl rfl (by repeat (first | exact ones_nil | refine ones_cons rfl ?_)) (by repeat (first | exact Upd.head | apply Upd.tail)) (by rfl)) rfl ?_
        rintro _ _ rfl
        refine Ops.quiet (Qt.assign rfl) rfl ?_
        refine Ops.nil ?_
        refine H.then_normal ?_
        refine H.ret ?_
        refine (H.ends_to (cs' := osl 9 B1 m.rcpts.length d1 (m.rcpts.map str) :: osl 3 B2 m.marks.length d2 (m.marks.map num) :: osl 9 B3 m.body.length d3 (m.body.map str) :: cs) rfl (.cons (.agg rfl (tk rfl) rfl (by repeat (first | exact List.Mem.head _ | apply List.Mem.tail)) (by rfl) (by rfl)) (.cons (.tmp rfl) .nil)) (fun w hw => ?_) ?_)
        · have h1 : Own w0 w (osl 9 B3 m.body.length d3 (m.body.map str) :: osl 3 B2 m.marks.length d2 (m.marks.map num) :: osl 9 B1 m.rcpts.length d1 (m.rcpts.map str) :: cs) := hw.sub (by repeat (first | exact List.Sublist.refl _ | exact List.nil_sublist _ | apply List.Sublist.cons_cons | apply List.Sublist.cons))
          exact h1.perm (List.Perm.append_right cs (List.reverse_perm [osl 9 B1 m.rcpts.length d1 (m.rcpts.map str), osl 3 B2 m.marks.length d2 (m.marks.map num), osl 9 B3 m.body.length d3 (m.body.map str)]))
        · exact ⟨⟨⟨B1, m.rcpts.length, d1⟩, ⟨B2, m.marks.length, d2⟩, ⟨B3, m.body.length, d3⟩⟩, rfl, rfl⟩
    · rintro _ _ ⟨b6, rfl, rfl⟩
      refine Hd.conv (fun w hw => hw.perm (.swap _ _ _)) ?_
      refine Hd.eff 3 (by intro w hw; first | exact hw | exact Own.sub (by repeat (first | exact List.Sublist.refl _ | exact List.nil_sublist _ | apply List.Sublist.cons_cons | apply List.Sublist.cons)) hw) rfl rfl (by kernel_rfl) rfl (Ef.call (fok fab_all rfl Tryz.func42 rfl) rfl (spec_bnumi w0 b9 _ 6 m.gen _ (by omega) n2.1 (by omega) (by repeat (first | assumption | exact Reads.of_head | apply Reads.tail)))) ?_
      rintro _ _ ⟨A3, q3, c3, rfl, ad3, rfl⟩
      have hr3 : Reads w0 cs A3 q3 c3 ((numB 6 m.born.toNat ++ (numB 6 m.tries.toNat ++ (numB 6 m.due.toNat ++ (txtB m.frm ++ (numB 2 m.rcpts.length ++ (rcB m.rcpts ++ (numB 2 m.marks.length ++ (mkB m.marks ++ (numB 4 m.body.length ++ (rcB m.body ++ [])))))))))).map u8v) := ad3.app hr2 (numB_len _ _)
      refine Hd.eff 5 (by intro w hw; first | exact hw | exact Own.sub (by repeat (first | exact List.Sublist.refl _ | exact List.nil_sublist _ | apply List.Sublist.cons_cons | apply List.Sublist.cons)) hw) rfl rfl (by kernel_rfl) rfl (Ef.call (fok fab_all rfl Tryz.func42 rfl) rfl (spec_bnumi w0 b9 _ 6 m.born _ (by omega) n3.1 (by omega) (by repeat (first | assumption | exact Reads.of_head | apply Reads.tail)))) ?_
      rintro _ _ ⟨A4, q4, c4, rfl, ad4, rfl⟩
      have hr4 : Reads w0 cs A4 q4 c4 ((numB 6 m.tries.toNat ++ (numB 6 m.due.toNat ++ (txtB m.frm ++ (numB 2 m.rcpts.length ++ (rcB m.rcpts ++ (numB 2 m.marks.length ++ (mkB m.marks ++ (numB 4 m.body.length ++ (rcB m.body ++ []))))))))).map u8v) := ad4.app hr3 (numB_len _ _)
      refine Hd.eff 7 (by intro w hw; first | exact hw | exact Own.sub (by repeat (first | exact List.Sublist.refl _ | exact List.nil_sublist _ | apply List.Sublist.cons_cons | apply List.Sublist.cons)) hw) rfl rfl (by kernel_rfl) rfl (Ef.call (fok fab_all rfl Tryz.func42 rfl) rfl (spec_bnumi w0 b9 _ 6 m.tries _ (by omega) n4.1 (by omega) (by repeat (first | assumption | exact Reads.of_head | apply Reads.tail)))) ?_
      rintro _ _ ⟨A5, q5, c5, rfl, ad5, rfl⟩
      have hr5 : Reads w0 cs A5 q5 c5 ((numB 6 m.due.toNat ++ (txtB m.frm ++ (numB 2 m.rcpts.length ++ (rcB m.rcpts ++ (numB 2 m.marks.length ++ (mkB m.marks ++ (numB 4 m.body.length ++ (rcB m.body ++ [])))))))).map u8v) := ad5.app hr4 (numB_len _ _)
      refine Hd.eff 9 (by intro w hw; first | exact hw | exact Own.sub (by repeat (first | exact List.Sublist.refl _ | exact List.nil_sublist _ | apply List.Sublist.cons_cons | apply List.Sublist.cons)) hw) rfl rfl (by kernel_rfl) rfl (Ef.call (fok fab_all rfl Tryz.func42 rfl) rfl (spec_bnumi w0 b9 _ 6 m.due _ (by omega) n5.1 (by omega) (by repeat (first | assumption | exact Reads.of_head | apply Reads.tail)))) ?_
      rintro _ _ ⟨A6, q6, c6, rfl, ad6, rfl⟩
      have hr6 : Reads w0 cs A6 q6 c6 ((txtB m.frm ++ (numB 2 m.rcpts.length ++ (rcB m.rcpts ++ (numB 2 m.marks.length ++ (mkB m.marks ++ (numB 4 m.body.length ++ (rcB m.body ++ []))))))).map u8v) := ad6.app hr5 (numB_len _ _)
      refine Hd.eff 11 (by intro w hw; first | exact hw | exact Own.sub (by repeat (first | exact List.Sublist.refl _ | exact List.nil_sublist _ | apply List.Sublist.cons_cons | apply List.Sublist.cons)) hw) rfl rfl (by kernel_rfl) rfl (Ef.call (fok fab_all rfl Tryz.func43 rfl) rfl (spec_btext w0 b9 m.frm _ _ (by omega) (by repeat (first | assumption | exact Reads.of_head | apply Reads.tail)))) ?_
      rintro _ _ ⟨A7, q7, c7, rfl, ad7, rfl⟩
      have hr7 : Reads w0 cs A7 q7 c7 ((numB 2 m.rcpts.length ++ (rcB m.rcpts ++ (numB 2 m.marks.length ++ (mkB m.marks ++ (numB 4 m.body.length ++ (rcB m.body ++ [])))))).map u8v) := ad7.app hr6 rfl
      refine Hd.quiet 12 (by kernel_rfl) rfl rfl (by kernel_rfl) rfl (Qt.build (tk rfl) (zk rfl) rfl (by rfl)) ?_
      refine Hd.tail (by intro w hw; first | exact hw | exact Own.sub (by repeat (first | exact List.Sublist.refl _ | exact List.nil_sublist _ | apply List.Sublist.cons_cons | apply List.Sublist.cons)) hw) (by kernel_rfl) rfl ?_
      refine Ops.eff (Ef.store rfl rfl (tk rfl) rfl rfl (by repeat (first | exact ones_nil | refine ones_cons rfl ?_)) (by repeat (first | exact Upd.head | apply Upd.tail)) (by rfl)) rfl ?_
      rintro _ _ rfl
      refine Ops.nil ?_
      refine H.then_normal ?_
      refine H.seq ?_
      refine H.conv (cs' := blk b9 [.slice A7 q7 c7, bol false] 78 :: blk b6 [num m.id, num m.gen, num m.born, num m.tries, num m.due, str m.frm, .slice none 0 0, .slice none 0 0, .slice none 0 0] 25 :: blk b4 [ptr b9] 76 :: blk b2 [num 0, num 0, num 0, num 0, num 0, str [], .slice none 0 0, .slice none 0 0, .slice none 0 0] 25 :: cs) (fun w hw => hw) ?_
      refine H.region ?_
      refine Ops.quiet (Qt.load rfl (tk rfl) rfl (by repeat (first | exact List.Mem.head _ | apply List.Mem.tail)) (by rfl)) rfl ?_
      refine Ops.quiet (Qt.load rfl (tk rfl) rfl (by repeat (first | exact List.Mem.head _ | apply List.Mem.tail)) (by rfl)) rfl ?_
      refine Ops.quiet (Qt.makeFunc rfl rfl) rfl ?_
      refine Ops.eff (Ef.call (fok fab_all rfl Tryz.func44 rfl) rfl (spec_blists w0 b9 m.rcpts (numB 2 m.marks.length ++ (mkB m.marks ++ (numB 4 m.body.length ++ (rcB m.body ++ [])))) 2 _ (by omega) (by omega) (by omega) (fun s hs => by have := mbox_len (hg.rc s hs); omega) (by repeat (first | assumption | exact Reads.of_head | apply Reads.tail)))) rfl ?_
      rintro _ _ ⟨A8, q8, c8, B1, d1, rfl, ad8, rfl⟩
      have hr8 : Reads w0 cs A8 q8 c8 ((numB 2 m.marks.length ++ (mkB m.marks ++ (numB 4 m.body.length ++ (rcB m.body ++ [])))).map u8v) := ad8.app (p := numB 2 m.rcpts.length ++ rcB m.rcpts) (by rw [List.append_assoc]; exact hr7) (by rw [List.length_append, numB_len])
      refine Ops.quiet (Qt.fieldAddr rfl (tk rfl) rfl) rfl ?_
      refine Ops.eff (Ef.store rfl rfl (tk rfl) rfl rfl (by repeat (first | exact ones_nil | refine ones_cons rfl ?_)) (by repeat (first | exact Upd.head | apply Upd.tail)) (by rfl)) rfl ?_
      rintro _ _ rfl
      refine Ops.nil ?_
      refine H.then_normal ?_
      refine H.seq ?_
      refine H.conv (cs' := blk b9 [.slice A8 q8 c8, bol false] 78 :: osl 9 B1 m.rcpts.length d1 (m.rcpts.map str) :: blk b6 [num m.id, num m.gen, num m.born, num m.tries, num m.due, str m.frm, .slice B1 m.rcpts.length d1, .slice none 0 0, .slice none 0 0] 25 :: blk b4 [ptr b9] 76 :: blk b2 [num 0, num 0, num 0, num 0, num 0, str [], .slice none 0 0, .slice none 0 0, .slice none 0 0] 25 :: cs) (fun w hw => hw) ?_
      refine H.region ?_
      refine Ops.quiet (Qt.load rfl (tk rfl) rfl (by repeat (first | exact List.Mem.head _ | apply List.Mem.tail)) (by rfl)) rfl ?_
      refine Ops.quiet (Qt.makeFunc rfl rfl) rfl ?_
      refine Ops.eff (Ef.call (fok fab_all rfl Tryz.func45 rfl) rfl (spec_blisti w0 b9 m.marks (numB 4 m.body.length ++ (rcB m.body ++ [])) 2 b4 _ (by omega) (by omega) (by omega) (fun s hs => hg.mks s hs) (by repeat (first | exact List.Mem.head _ | apply List.Mem.tail)) (by repeat (first | assumption | exact Reads.of_head | apply Reads.tail)))) rfl ?_
      rintro _ _ ⟨A9, q9, c9, B2, d2, rfl, ad9, rfl⟩
      have hr9 : Reads w0 cs A9 q9 c9 ((numB 4 m.body.length ++ (rcB m.body ++ [])).map u8v) := ad9.app (p := numB 2 m.marks.length ++ mkB m.marks) (by rw [List.append_assoc]; exact hr8) (by rw [List.length_append, numB_len])
      refine Ops.quiet (Qt.fieldAddr rfl (tk rfl) rfl) rfl ?_
      refine Ops.eff (Ef.store rfl rfl (tk rfl) rfl rfl (by repeat (first | exact ones_nil | refine ones_cons rfl ?_)) (by repeat (first | exact Upd.head | apply Upd.tail)) (by rfl)) rfl ?_
      rintro _ _ rfl
      refine Ops.nil ?_
      refine H.then_normal ?_
      refine H.seq ?_
      refine H.conv (cs' := blk b9 [.slice A9 q9 c9, bol false] 78 :: osl 3 B2 m.marks.length d2 (m.marks.map num) :: osl 9 B1 m.rcpts.length d1 (m.rcpts.map str) :: blk b6 [num m.id, num m.gen, num m.born, num m.tries, num m.due, str m.frm, .slice B1 m.rcpts.length d1, .slice B2 m.marks.length d2, .slice none 0 0] 25 :: blk b4 [ptr b9] 76 :: blk b2 [num 0, num 0, num 0, num 0, num 0, str [], .slice none 0 0, .slice none 0 0, .slice none 0 0] 25 :: cs) (fun w hw => hw) ?_
      refine H.region ?_
      refine Ops.quiet (Qt.load rfl (tk rfl) rfl (by repeat (first | exact List.Mem.head _ | apply List.Mem.tail)) (by rfl)) rfl ?_
      refine Ops.quiet (Qt.load rfl (tk rfl) rfl (by repeat (first | exact List.Mem.head _ | apply List.Mem.tail)) (by rfl)) rfl ?_
      refine Ops.quiet (Qt.makeFunc rfl rfl) rfl ?_
      refine Ops.eff (Ef.call (fok fab_all rfl Tryz.func44 rfl) rfl (spec_blists w0 b9 m.body [] 4 _ (by omega) (by omega) (by omega) (fun s hs => by have := okB_len (hok s hs); omega) (by repeat (first | assumption | exact Reads.of_head | apply Reads.tail)))) rfl ?_
      rintro _ _ ⟨A10, q10, c10, B3, d3, rfl, ad10, rfl⟩
      have hr10 : Reads w0 cs A10 q10 c10 (([] : Bs).map u8v) := ad10.app (p := numB 4 m.body.length ++ rcB m.body) (by rw [List.append_assoc]; exact hr9) (by rw [List.length_append, numB_len])
      refine Ops.quiet (Qt.fieldAddr rfl (tk rfl) rfl) rfl ?_
      refine Ops.eff (Ef.store rfl rfl (tk rfl) rfl rfl (by repeat (first | exact ones_nil | refine ones_cons rfl ?_)) (by repeat (first | exact Upd.head | apply Upd.tail)) (by rfl)) rfl ?_
      rintro _ _ rfl
      refine Ops.nil ?_
      refine H.then_normal ?_
      refine H.seq ?_
      refine H.seq ?_
      have hr11 : Reads w0 (blk b9 [.slice A10 q10 c10, bol false] 78 :: cs) A10 q10 c10 (([] : Bs).map u8v) := Reads.tail hr10
      refine H.fact (fun w hw => ((hr10 w (hw.sub (by repeat (first | exact List.Sublist.refl _ | exact List.nil_sublist _ | apply List.Sublist.cons_cons | apply List.Sublist.cons)))).len)) fun hq10 => ?_
      obtain rfl : q10 = 0 := hq10.symm
      refine H.conv (cs' := blk b9 [.slice A10 0 c10, bol false] 78 :: osl 9 B3 m.body.length d3 (m.body.map str) :: osl 3 B2 m.marks.length d2 (m.marks.map num) :: osl 9 B1 m.rcpts.length d1 (m.rcpts.map str) :: blk b6 [num m.id, num m.gen, num m.born, num m.tries, num m.due, str m.frm, .slice B1 m.rcpts.length d1, .slice B2 m.marks.length d2, .slice B3 m.body.length d3] 25 :: blk b4 [ptr b9] 76 :: blk b2 [num 0, num 0, num 0, num 0, num 0, str [], .slice none 0 0, .slice none 0 0, .slice none 0 0] 25 :: cs) (fun w hw => hw) ?_
      have hq := spec_egood w0 hG m ⟨⟨B1, m.rcpts.length, d1⟩, ⟨B2, m.marks.length, d2⟩, ⟨B3, m.body.length, d3⟩⟩ hb
      rw [goodM_iff.2 hg] at hq
      refine H.region ?_
      refine Ops.quiet (Qt.load rfl (tk rfl) rfl (by repeat (first | exact List.Mem.head _ | apply List.Mem.tail)) (by rfl)) rfl ?_
      refine Ops.quiet (Qt.nilCheck rfl) rfl ?_
      refine Ops.quiet (Qt.fieldAddr rfl (tk rfl) rfl) rfl ?_
      refine Ops.quiet (Qt.load rfl (tk rfl) rfl (by repeat (first | exact List.Mem.head _ | apply List.Mem.tail)) (by rfl)) rfl ?_
      refine Ops.quiet (Qt.move rfl) rfl ?_
      refine Ops.guard_yes rfl rfl rfl rfl rfl ?_
      refine Ops.quiet (Qt.move rfl) rfl ?_
      refine Ops.guard_yes rfl rfl rfl rfl rfl ?_
      refine Ops.quiet (Qt.neq rfl rfl) rfl ?_
      refine Ops.quiet (Qt.pick_f rfl rfl rfl) rfl ?_
      refine Ops.quiet (Qt.move rfl) rfl ?_
      refine Ops.guard_yes rfl rfl rfl rfl rfl ?_
      refine Ops.quiet (Qt.load rfl (tk rfl) rfl (by repeat (first | exact List.Mem.head _ | apply List.Mem.tail)) (by rfl)) rfl ?_
      refine Ops.guard_yes rfl rfl rfl rfl rfl ?_
      refine Ops.quiet (Qt.nilCheck rfl) rfl ?_
      refine Ops.guard_yes rfl rfl rfl rfl rfl ?_
      refine Ops.quiet (Qt.fieldAddr rfl (tk rfl) rfl) rfl ?_
      refine Ops.guard_yes rfl rfl rfl rfl rfl ?_
      refine Ops.quiet (Qt.load rfl (tk rfl) rfl (by repeat (first | exact List.Mem.head _ | apply List.Mem.tail)) (by rfl)) rfl ?_
      refine Ops.guard_yes rfl rfl rfl rfl rfl ?_
      refine Ops.quiet (Qt.len_sl (ats := #[]) rfl (tk rfl)) rfl ?_
      refine Ops.guard_yes rfl rfl rfl rfl rfl ?_
      refine Ops.quiet (Qt.gtr rfl rfl) rfl ?_
      refine Ops.quiet (Qt.pick_f rfl rfl rfl) rfl ?_
      refine Ops.quiet (Qt.move rfl) rfl ?_
      refine Ops.guard_yes rfl rfl rfl rfl rfl ?_
      refine Ops.quiet (Qt.load_agg rfl (tk rfl) rfl (by repeat (first | exact List.Mem.head _ | apply List.Mem.tail)) (by rfl) (by rfl)) rfl ?_
      refine Ops.guard_yes rfl rfl rfl rfl rfl ?_
      refine Ops.eff (Ef.call (fok fab_all rfl Tryz.func27 rfl) rfl (hq _ ⟨osl_reads (by repeat (first | exact List.Mem.head _ | apply List.Mem.tail)), osl_reads (by repeat (first | exact List.Mem.head _ | apply List.Mem.tail)), osl_reads (by repeat (first | exact List.Mem.head _ | apply List.Mem.tail))⟩)) rfl ?_
      rintro _ c0 ⟨rfl, h0⟩; subst c0
      refine Ops.guard_yes rfl rfl rfl rfl rfl ?_
      refine Ops.quiet (Qt.not rfl) rfl ?_
      refine Ops.quiet (Qt.pick_f rfl rfl rfl) rfl ?_
      refine Ops.nil ?_
      refine H.then_normal ?_
      refine H.cond_false rfl (by rfl) ?_
      refine H.skip ?_
      refine H.then_normal ?_
      refine H.seq ?_
      refine H.region ?_
      refine Ops.quiet (Qt.load_agg rfl (tk rfl) rfl (by repeat (first | exact List.Mem.head _ | apply List.Mem.tail)) (by rfl) (by rfl)) rfl ?_
      refine Ops.eff (Ef.store rfl rfl (tk rfl) rfl rfl (by repeat (first | exact ones_nil | refine ones_cons rfl ?_)) (by repeat (first | exact Upd.head | apply Upd.tail)) (by rfl)) rfl ?_
      rintro _ _ rfl
      refine Ops.quiet (Qt.assign rfl) rfl ?_
      refine Ops.nil ?_
      refine H.then_normal ?_
      refine H.ret ?_
      refine (H.ends_to (cs' := osl 9 B1 m.rcpts.length d1 (m.rcpts.map str) :: osl 3 B2 m.marks.length d2 (m.marks.map num) :: osl 9 B3 m.body.length d3 (m.body.map str) :: cs) rfl (.cons (.agg rfl (tk rfl) rfl (by repeat (first | exact List.Mem.head _ | apply List.Mem.tail)) (by rfl) (by rfl)) (.cons (.tmp rfl) .nil)) (fun w hw => ?_) ?_)
      · have h1 : Own w0 w (osl 9 B3 m.body.length d3 (m.body.map str) :: osl 3 B2 m.marks.length d2 (m.marks.map num) :: osl 9 B1 m.rcpts.length d1 (m.rcpts.map str) :: cs) := hw.sub (by repeat (first | exact List.Sublist.refl _ | exact List.nil_sublist _ | apply List.Sublist.cons_cons | apply List.Sublist.cons))
        exact h1.perm (List.Perm.append_right cs (List.reverse_perm [osl 9 B1 m.rcpts.length d1 (m.rcpts.map str), osl 3 B2 m.marks.length d2 (m.marks.map num), osl 9 B3 m.body.length d3 (m.body.map str)]))
      · exact ⟨⟨⟨B1, m.rcpts.length, d1⟩, ⟨B2, m.marks.length, d2⟩, ⟨B3, m.body.length, d3⟩⟩, rfl, rfl⟩
  · rintro _ _ ⟨b6, rfl, rfl⟩
    refine Hd.conv (fun w hw => hw.perm (.swap _ _ _)) ?_
    refine Hd.eff 1 (by intro w hw; first | exact hw | exact Own.sub (by repeat (first | exact List.Sublist.refl _ | exact List.nil_sublist _ | apply List.Sublist.cons_cons | apply List.Sublist.cons)) hw) rfl rfl (by kernel_rfl) rfl (Ef.call (fok fab_all rfl Tryz.func42 rfl) rfl (spec_bnumi w0 b9 _ 6 m.id _ (by omega) n1.1 (by omega) (by repeat (first | assumption | exact Reads.of_head | apply Reads.tail)))) ?_
    rintro _ _ ⟨A2, q2, c2, rfl, ad2, rfl⟩
    have hr2 : Reads w0 cs A2 q2 c2 ((numB 6 m.gen.toNat ++ (numB 6 m.born.toNat ++ (numB 6 m.tries.toNat ++ (numB 6 m.due.toNat ++ (txtB m.frm ++ (numB 2 m.rcpts.length ++ (rcB m.rcpts ++ (numB 2 m.marks.length ++ (mkB m.marks ++ (numB 4 m.body.length ++ (rcB m.body ++ []))))))))))).map u8v) := ad2.app hr1 (numB_len _ _)
    refine Hd.eff 3 (by intro w hw; first | exact hw | exact Own.sub (by repeat (first | exact List.Sublist.refl _ | exact List.nil_sublist _ | apply List.Sublist.cons_cons | apply List.Sublist.cons)) hw) rfl rfl (by kernel_rfl) rfl (Ef.call (fok fab_all rfl Tryz.func42 rfl) rfl (spec_bnumi w0 b9 _ 6 m.gen _ (by omega) n2.1 (by omega) (by repeat (first | assumption | exact Reads.of_head | apply Reads.tail)))) ?_
    rintro _ _ ⟨A3, q3, c3, rfl, ad3, rfl⟩
    have hr3 : Reads w0 cs A3 q3 c3 ((numB 6 m.born.toNat ++ (numB 6 m.tries.toNat ++ (numB 6 m.due.toNat ++ (txtB m.frm ++ (numB 2 m.rcpts.length ++ (rcB m.rcpts ++ (numB 2 m.marks.length ++ (mkB m.marks ++ (numB 4 m.body.length ++ (rcB m.body ++ [])))))))))).map u8v) := ad3.app hr2 (numB_len _ _)
    refine Hd.eff 5 (by intro w hw; first | exact hw | exact Own.sub (by repeat (first | exact List.Sublist.refl _ | exact List.nil_sublist _ | apply List.Sublist.cons_cons | apply List.Sublist.cons)) hw) rfl rfl (by kernel_rfl) rfl (Ef.call (fok fab_all rfl Tryz.func42 rfl) rfl (spec_bnumi w0 b9 _ 6 m.born _ (by omega) n3.1 (by omega) (by repeat (first | assumption | exact Reads.of_head | apply Reads.tail)))) ?_
    rintro _ _ ⟨A4, q4, c4, rfl, ad4, rfl⟩
    have hr4 : Reads w0 cs A4 q4 c4 ((numB 6 m.tries.toNat ++ (numB 6 m.due.toNat ++ (txtB m.frm ++ (numB 2 m.rcpts.length ++ (rcB m.rcpts ++ (numB 2 m.marks.length ++ (mkB m.marks ++ (numB 4 m.body.length ++ (rcB m.body ++ []))))))))).map u8v) := ad4.app hr3 (numB_len _ _)
    refine Hd.eff 7 (by intro w hw; first | exact hw | exact Own.sub (by repeat (first | exact List.Sublist.refl _ | exact List.nil_sublist _ | apply List.Sublist.cons_cons | apply List.Sublist.cons)) hw) rfl rfl (by kernel_rfl) rfl (Ef.call (fok fab_all rfl Tryz.func42 rfl) rfl (spec_bnumi w0 b9 _ 6 m.tries _ (by omega) n4.1 (by omega) (by repeat (first | assumption | exact Reads.of_head | apply Reads.tail)))) ?_
    rintro _ _ ⟨A5, q5, c5, rfl, ad5, rfl⟩
    have hr5 : Reads w0 cs A5 q5 c5 ((numB 6 m.due.toNat ++ (txtB m.frm ++ (numB 2 m.rcpts.length ++ (rcB m.rcpts ++ (numB 2 m.marks.length ++ (mkB m.marks ++ (numB 4 m.body.length ++ (rcB m.body ++ [])))))))).map u8v) := ad5.app hr4 (numB_len _ _)
    refine Hd.eff 9 (by intro w hw; first | exact hw | exact Own.sub (by repeat (first | exact List.Sublist.refl _ | exact List.nil_sublist _ | apply List.Sublist.cons_cons | apply List.Sublist.cons)) hw) rfl rfl (by kernel_rfl) rfl (Ef.call (fok fab_all rfl Tryz.func42 rfl) rfl (spec_bnumi w0 b9 _ 6 m.due _ (by omega) n5.1 (by omega) (by repeat (first | assumption | exact Reads.of_head | apply Reads.tail)))) ?_
    rintro _ _ ⟨A6, q6, c6, rfl, ad6, rfl⟩
    have hr6 : Reads w0 cs A6 q6 c6 ((txtB m.frm ++ (numB 2 m.rcpts.length ++ (rcB m.rcpts ++ (numB 2 m.marks.length ++ (mkB m.marks ++ (numB 4 m.body.length ++ (rcB m.body ++ []))))))).map u8v) := ad6.app hr5 (numB_len _ _)
    refine Hd.eff 11 (by intro w hw; first | exact hw | exact Own.sub (by repeat (first | exact List.Sublist.refl _ | exact List.nil_sublist _ | apply List.Sublist.cons_cons | apply List.Sublist.cons)) hw) rfl rfl (by kernel_rfl) rfl (Ef.call (fok fab_all rfl Tryz.func43 rfl) rfl (spec_btext w0 b9 m.frm _ _ (by omega) (by repeat (first | assumption | exact Reads.of_head | apply Reads.tail)))) ?_
    rintro _ _ ⟨A7, q7, c7, rfl, ad7, rfl⟩
    have hr7 : Reads w0 cs A7 q7 c7 ((numB 2 m.rcpts.length ++ (rcB m.rcpts ++ (numB 2 m.marks.length ++ (mkB m.marks ++ (numB 4 m.body.length ++ (rcB m.body ++ [])))))).map u8v) := ad7.app hr6 rfl
    refine Hd.quiet 12 (by kernel_rfl) rfl rfl (by kernel_rfl) rfl (Qt.build (tk rfl) (zk rfl) rfl (by rfl)) ?_
    refine Hd.tail (by intro w hw; first | exact hw | exact Own.sub (by repeat (first | exact List.Sublist.refl _ | exact List.nil_sublist _ | apply List.Sublist.cons_cons | apply List.Sublist.cons)) hw) (by kernel_rfl) rfl ?_
    refine Ops.eff (Ef.store rfl rfl (tk rfl) rfl rfl (by repeat (first | exact ones_nil | refine ones_cons rfl ?_)) (by repeat (first | exact Upd.head | apply Upd.tail)) (by rfl)) rfl ?_
    rintro _ _ rfl
    refine Ops.nil ?_
    refine H.then_normal ?_
    refine H.seq ?_
    refine H.conv (cs' := blk b9 [.slice A7 q7 c7, bol false] 78 :: blk b6 [num m.id, num m.gen, num m.born, num m.tries, num m.due, str m.frm, .slice none 0 0, .slice none 0 0, .slice none 0 0] 25 :: blk b4 [ptr b9] 76 :: blk b2 [num 0, num 0, num 0, num 0, num 0, str [], .slice none 0 0, .slice none 0 0, .slice none 0 0] 25 :: cs) (fun w hw => hw) ?_
    refine H.region ?_
    refine Ops.quiet (Qt.load rfl (tk rfl) rfl (by repeat (first | exact List.Mem.head _ | apply List.Mem.tail)) (by rfl)) rfl ?_
    refine Ops.quiet (Qt.load rfl (tk rfl) rfl (by repeat (first | exact List.Mem.head _ | apply List.Mem.tail)) (by rfl)) rfl ?_
    refine Ops.quiet (Qt.makeFunc rfl rfl) rfl ?_
    refine Ops.eff (Ef.call (fok fab_all rfl Tryz.func44 rfl) rfl (spec_blists w0 b9 m.rcpts (numB 2 m.marks.length ++ (mkB m.marks ++ (numB 4 m.body.length ++ (rcB m.body ++ [])))) 2 _ (by omega) (by omega) (by omega) (fun s hs => by have := mbox_len (hg.rc s hs); omega) (by repeat (first | assumption | exact Reads.of_head | apply Reads.tail)))) rfl ?_
    rintro _ _ ⟨A8, q8, c8, B1, d1, rfl, ad8, rfl⟩
    have hr8 : Reads w0 cs A8 q8 c8 ((numB 2 m.marks.length ++ (mkB m.marks ++ (numB 4 m.body.length ++ (rcB m.body ++ [])))).map u8v) := ad8.app (p := numB 2 m.rcpts.length ++ rcB m.rcpts) (by rw [List.append_assoc]; exact hr7) (by rw [List.length_append, numB_len])
    refine Ops.quiet (Qt.fieldAddr rfl (tk rfl) rfl) rfl ?_
    refine Ops.eff (Ef.store rfl rfl (tk rfl) rfl rfl (by repeat (first | exact ones_nil | refine ones_cons rfl ?_)) (by repeat (first | exact Upd.head | apply Upd.tail)) (by rfl)) rfl ?_
    rintro _ _ rfl
    refine Ops.nil ?_
    refine H.then_normal ?_
    refine H.seq ?_
    refine H.conv (cs' := blk b9 [.slice A8 q8 c8, bol false] 78 :: osl 9 B1 m.rcpts.length d1 (m.rcpts.map str) :: blk b6 [num m.id, num m.gen, num m.born, num m.tries, num m.due, str m.frm, .slice B1 m.rcpts.length d1, .slice none 0 0, .slice none 0 0] 25 :: blk b4 [ptr b9] 76 :: blk b2 [num 0, num 0, num 0, num 0, num 0, str [], .slice none 0 0, .slice none 0 0, .slice none 0 0] 25 :: cs) (fun w hw => hw) ?_
    refine H.region ?_
    refine Ops.quiet (Qt.load rfl (tk rfl) rfl (by repeat (first | exact List.Mem.head _ | apply List.Mem.tail)) (by rfl)) rfl ?_
    refine Ops.quiet (Qt.makeFunc rfl rfl) rfl ?_
    refine Ops.eff (Ef.call (fok fab_all rfl Tryz.func45 rfl) rfl (spec_blisti w0 b9 m.marks (numB 4 m.body.length ++ (rcB m.body ++ [])) 2 b4 _ (by omega) (by omega) (by omega) (fun s hs => hg.mks s hs) (by repeat (first | exact List.Mem.head _ | apply List.Mem.tail)) (by repeat (first | assumption | exact Reads.of_head | apply Reads.tail)))) rfl ?_
    rintro _ _ ⟨A9, q9, c9, B2, d2, rfl, ad9, rfl⟩
    have hr9 : Reads w0 cs A9 q9 c9 ((numB 4 m.body.length ++ (rcB m.body ++ [])).map u8v) := ad9.app (p := numB 2 m.marks.length ++ mkB m.marks) (by rw [List.append_assoc]; exact hr8) (by rw [List.length_append, numB_len])
    refine Ops.quiet (Qt.fieldAddr rfl (tk rfl) rfl) rfl ?_
    refine Ops.eff (Ef.store rfl rfl (tk rfl) rfl rfl (by repeat (first | exact ones_nil | refine ones_cons rfl ?_)) (by repeat (first | exact Upd.head | apply Upd.tail)) (by rfl)) rfl ?_
    rintro _ _ rfl
    refine Ops.nil ?_
    refine H.then_normal ?_
    refine H.seq ?_
    refine H.conv (cs' := blk b9 [.slice A9 q9 c9, bol false] 78 :: osl 3 B2 m.marks.length d2 (m.marks.map num) :: osl 9 B1 m.rcpts.length d1 (m.rcpts.map str) :: blk b6 [num m.id, num m.gen, num m.born, num m.tries, num m.due, str m.frm, .slice B1 m.rcpts.length d1, .slice B2 m.marks.length d2, .slice none 0 0] 25 :: blk b4 [ptr b9] 76 :: blk b2 [num 0, num 0, num 0, num 0, num 0, str [], .slice none 0 0, .slice none 0 0, .slice none 0 0] 25 :: cs) (fun w hw => hw) ?_
    refine H.region ?_
    refine Ops.quiet (Qt.load rfl (tk rfl) rfl (by repeat (first | exact List.Mem.head _ | apply List.Mem.tail)) (by rfl)) rfl ?_
    refine Ops.quiet (Qt.load rfl (tk rfl) rfl (by repeat (first | exact List.Mem.head _ | apply List.Mem.tail)) (by rfl)) rfl ?_
    refine Ops.quiet (Qt.makeFunc rfl rfl) rfl ?_
    refine Ops.eff (Ef.call (fok fab_all rfl Tryz.func44 rfl) rfl (spec_blists w0 b9 m.body [] 4 _ (by omega) (by omega) (by omega) (fun s hs => by have := okB_len (hok s hs); omega) (by repeat (first | assumption | exact Reads.of_head | apply Reads.tail)))) rfl ?_
    rintro _ _ ⟨A10, q10, c10, B3, d3, rfl, ad10, rfl⟩
    have hr10 : Reads w0 cs A10 q10 c10 (([] : Bs).map u8v) := ad10.app (p := numB 4 m.body.length ++ rcB m.body) (by rw [List.append_assoc]; exact hr9) (by rw [List.length_append, numB_len])
    refine Ops.quiet (Qt.fieldAddr rfl (tk rfl) rfl) rfl ?_
    refine Ops.eff (Ef.store rfl rfl (tk rfl) rfl rfl (by repeat (first | exact ones_nil | refine ones_cons rfl ?_)) (by repeat (first | exact Upd.head | apply Upd.tail)) (by rfl)) rfl ?_
    rintro _ _ rfl
    refine Ops.nil ?_
    refine H.then_normal ?_
    refine H.seq ?_
    refine H.seq ?_
    have hr11 : Reads w0 (blk b9 [.slice A10 q10 c10, bol false] 78 :: cs) A10 q10 c10 (([] : Bs).map u8v) := Reads.tail hr10
    refine H.fact (fun w hw => ((hr10 w (hw.sub (by repeat (first | exact List.Sublist.refl _ | exact List.nil_sublist _ | apply List.Sublist.cons_cons | apply List.Sublist.cons)))).len)) fun hq10 => ?_
    obtain rfl : q10 = 0 := hq10.symm
    refine H.conv (cs' := blk b9 [.slice A10 0 c10, bol false] 78 :: osl 9 B3 m.body.length d3 (m.body.map str) :: osl 3 B2 m.marks.length d2 (m.marks.map num) :: osl 9 B1 m.rcpts.length d1 (m.rcpts.map str) :: blk b6 [num m.id, num m.gen, num m.born, num m.tries, num m.due, str m.frm, .slice B1 m.rcpts.length d1, .slice B2 m.marks.length d2, .slice B3 m.body.length d3] 25 :: blk b4 [ptr b9] 76 :: blk b2 [num 0, num 0, num 0, num 0, num 0, str [], .slice none 0 0, .slice none 0 0, .slice none 0 0] 25 :: cs) (fun w hw => hw) ?_
    have hq := spec_egood w0 hG m ⟨⟨B1, m.rcpts.length, d1⟩, ⟨B2, m.marks.length, d2⟩, ⟨B3, m.body.length, d3⟩⟩ hb
    rw [goodM_iff.2 hg] at hq
    refine H.region ?_
    refine Ops.quiet (Qt.load rfl (tk rfl) rfl (by repeat (first | exact List.Mem.head _ | apply List.Mem.tail)) (by rfl)) rfl ?_
    refine Ops.quiet (Qt.nilCheck rfl) rfl ?_
    refine Ops.quiet (Qt.fieldAddr rfl (tk rfl) rfl) rfl ?_
    refine Ops.quiet (Qt.load rfl (tk rfl) rfl (by repeat (first | exact List.Mem.head _ | apply List.Mem.tail)) (by rfl)) rfl ?_
    refine Ops.quiet (Qt.move rfl) rfl ?_
    refine Ops.guard_yes rfl rfl rfl rfl rfl ?_
    refine Ops.quiet (Qt.move rfl) rfl ?_
    refine Ops.guard_yes rfl rfl rfl rfl rfl ?_
    refine Ops.quiet (Qt.neq rfl rfl) rfl ?_
    refine Ops.quiet (Qt.pick_f rfl rfl rfl) rfl ?_
    refine Ops.quiet (Qt.move rfl) rfl ?_
    refine Ops.guard_yes rfl rfl rfl rfl rfl ?_
    refine Ops.quiet (Qt.load rfl (tk rfl) rfl (by repeat (first | exact List.Mem.head _ | apply List.Mem.tail)) (by rfl)) rfl ?_
    refine Ops.guard_yes rfl rfl rfl rfl rfl ?_
    refine Ops.quiet (Qt.nilCheck rfl) rfl ?_
    refine Ops.guard_yes rfl rfl rfl rfl rfl ?_
    refine Ops.quiet (Qt.fieldAddr rfl (tk rfl) rfl) rfl ?_
    refine Ops.guard_yes rfl rfl rfl rfl rfl ?_
    refine Ops.quiet (Qt.load rfl (tk rfl) rfl (by repeat (first | exact List.Mem.head _ | apply List.Mem.tail)) (by rfl)) rfl ?_
    refine Ops.guard_yes rfl rfl rfl rfl rfl ?_
    refine Ops.quiet (Qt.len_sl (ats := #[]) rfl (tk rfl)) rfl ?_
    refine Ops.guard_yes rfl rfl rfl rfl rfl ?_
    refine Ops.quiet (Qt.gtr rfl rfl) rfl ?_
    refine Ops.quiet (Qt.pick_f rfl rfl rfl) rfl ?_
    refine Ops.quiet (Qt.move rfl) rfl ?_
    refine Ops.guard_yes rfl rfl rfl rfl rfl ?_
    refine Ops.quiet (Qt.load_agg rfl (tk rfl) rfl (by repeat (first | exact List.Mem.head _ | apply List.Mem.tail)) (by rfl) (by rfl)) rfl ?_
    refine Ops.guard_yes rfl rfl rfl rfl rfl ?_
    refine Ops.eff (Ef.call (fok fab_all rfl Tryz.func27 rfl) rfl (hq _ ⟨osl_reads (by repeat (first | exact List.Mem.head _ | apply List.Mem.tail)), osl_reads (by repeat (first | exact List.Mem.head _ | apply List.Mem.tail)), osl_reads (by repeat (first | exact List.Mem.head _ | apply List.Mem.tail))⟩)) rfl ?_
    rintro _ c0 ⟨rfl, h0⟩; subst c0
    refine Ops.guard_yes rfl rfl rfl rfl rfl ?_
    refine Ops.quiet (Qt.not rfl) rfl ?_
    refine Ops.quiet (Qt.pick_f rfl rfl rfl) rfl ?_
    refine Ops.nil ?_
    refine H.then_normal ?_
    refine H.cond_false rfl (by rfl) ?_
    refine H.skip ?_
    refine H.then_normal ?_
    refine H.seq ?_
    refine H.region ?_
    refine Ops.quiet (Qt.load_agg rfl (tk rfl) rfl (by repeat (first | exact List.Mem.head _ | apply List.Mem.tail)) (by rfl) (by rfl)) rfl ?_
    refine Ops.eff (Ef.store rfl rfl (tk rfl) rfl rfl (by repeat (first | exact ones_nil | refine ones_cons rfl ?_)) (by repeat (first | exact Upd.head | apply Upd.tail)) (by rfl)) rfl ?_
    rintro _ _ rfl
    refine Ops.quiet (Qt.assign rfl) rfl ?_
    refine Ops.nil ?_
    refine H.then_normal ?_
    refine H.ret ?_
    refine (H.ends_to (cs' := osl 9 B1 m.rcpts.length d1 (m.rcpts.map str) :: osl 3 B2 m.marks.length d2 (m.marks.map num) :: osl 9 B3 m.body.length d3 (m.body.map str) :: cs) rfl (.cons (.agg rfl (tk rfl) rfl (by repeat (first | exact List.Mem.head _ | apply List.Mem.tail)) (by rfl) (by rfl)) (.cons (.tmp rfl) .nil)) (fun w hw => ?_) ?_)
    · have h1 : Own w0 w (osl 9 B3 m.body.length d3 (m.body.map str) :: osl 3 B2 m.marks.length d2 (m.marks.map num) :: osl 9 B1 m.rcpts.length d1 (m.rcpts.map str) :: cs) := hw.sub (by repeat (first | exact List.Sublist.refl _ | exact List.nil_sublist _ | apply List.Sublist.cons_cons | apply List.Sublist.cons))
      exact h1.perm (List.Perm.append_right cs (List.reverse_perm [osl 9 B1 m.rcpts.length d1 (m.rcpts.map str), osl 3 B2 m.marks.length d2 (m.marks.map num), osl 9 B3 m.body.length d3 (m.body.map str)]))
    · exact ⟨⟨⟨B1, m.rcpts.length, d1⟩, ⟨B2, m.marks.length, d2⟩, ⟨B3, m.body.length, d3⟩⟩, rfl, rfl⟩
end Go.Proofs.YtbglphpinhjfeaaGreatDoor
