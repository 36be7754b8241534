/- The library's contracts (laid off the shelf at this program) as specifications of the separation logic. -/
import Derived.Test.YtimldpbddkhedaaDoorTab
import Derived.Test.YtimldpbddkhedaaDoorShf
namespace Go.Proofs.YtimldpbddkhedaaDoor
open Go Go.RowKit
set_option maxRecDepth 100000
set_option linter.unusedVariables false
set_option linter.unusedSimpArgs false

theorem Own.drewN {w0 w : World} {cs : List SProp} (h : Own w0 w cs) (n : Nat) : Own w0 (w.drewN n) cs := h.same ⟨rfl, rfl, rfl, Nat.le_refl _, fun _ _ _ => rfl⟩
/-- A call that leaves memory alone but for draws. -/
theorem Spec.of_drawn {P : Program} {w0 : World} {f : FuncId} {args : List Value} {cs : List SProp} {v : Value} (h : ∀ w, Own w0 w cs → Calls P f args.toArray w fun e w' => e = .returned v ∧ ∃ q, w' = w.drewN q) :
    Spec P w0 f args cs (fun u cs' => u = v ∧ cs' = cs) := fun w ho => (h w ho).mono fun e w' ⟨h1, q, h2⟩ => ⟨v, cs, h1, ⟨rfl, rfl⟩, by rw [h2]; exact ho.drewN q⟩
theorem Spec.of_same {P : Program} {w0 : World} {f : FuncId} {args : List Value} {cs : List SProp} {v : Value} (h : ∀ w, Own w0 w cs → Calls P f args.toArray w fun e w' => e = .returned v ∧ w' = w) :
    Spec P w0 f args cs (fun u cs' => u = v ∧ cs' = cs) := fun w ho => (h w ho).mono fun e w' ⟨h1, h2⟩ => ⟨v, cs, h1, ⟨rfl, rfl⟩, by rw [h2]; exact ho⟩
/-- A call that makes new blocks, of which one is the slice that it hands back. -/
theorem Own.of_row {w0 w w' : World} {cs : List SProp} {el n : Nat} {v' : Value} {xs : List Value} (ho : Own w0 w cs) (hr : w'.ownsRow w.heap.size el 1 v' n xs) (hb : Below w.heap.size w w') (h1 : Ones xs) : ∃ A c, v' = .slice A n c ∧ Own w0 w' (osl el A n c xs :: cs) := by
  have hxl : xs.length = n := by have := hr.1; omega
  rcases hr.2 with ⟨rfl, h0⟩ | ⟨g, cap, cur, rfl, hg, hh, hnc, hcm, hcs, ht⟩
  · subst h0
    have : xs = [] := List.eq_nil_of_length_eq_zero hxl
    subst this
    exact ⟨none, 0, rfl, Own.nil_osl el (ho.same ⟨hb.os, hb.tape, hb.output, hb.size, fun k hk _ => hb.block k hk⟩)⟩
  · refine ⟨_, cap, rfl, Own.frame0 ho ⟨hb.os, hb.tape, hb.output, hb.size, fun k hk _ => hb.block k hk⟩ ⟨[(g, .cells cur el (0, 0))], ⟨⟨hxl, hnc, hcm⟩, .inr ⟨g, 0, cur.toList, (0, 0), rfl, by simp [hcs], .inl rfl, by simpa using ht, h1, by simp⟩⟩, by simp, ?_, ?_⟩⟩
    · intro p hp; rw [List.mem_singleton.1 hp]; exact hh
    · intro p hp; rw [List.mem_singleton.1 hp]; exact hg
/-- What the base world's variables hold. -/
structure Gl (w0 : World) : Prop where
  maxLen : ∃ m : Int, w0.cell? ⟨0, 0, none⟩ = some (.int .i64 m)
theorem Own.base_cell {w0 w : World} {cs : List SProp} (ho : Own w0 w cs) {a : Addr} {v : Value} (h : w0.cell? a = some v) : w.cell? a = some v := by
  have hb := World.block_lt_of_cell? w0 a h
  have := ho.below.block a.block hb
  simp only [World.cell?, this] at h ⊢
  exact h

def u8n (l : List UInt8) : List Int := l.map fun b => (b.toNat : Int)
theorem u8n_bytes (l : List UInt8) : Lib.bytesOf (u8n l) = l := by
  simp only [Lib.bytesOf, u8n, List.map_map]
  have : ((fun n : Int => UInt8.ofNat n.toNat) ∘ fun b : UInt8 => (b.toNat : Int)) = id := by funext b; simp
  rw [this, List.map_id]
theorem u8n_getD (l : List UInt8) (i : Nat) (h : i < l.length) : (u8n l).getD i 0 = ((l[i]).toNat : Int) := by
  simp [u8n, List.getD_eq_getElem?_getD, h]
theorem u8n_range (l : List UInt8) : ∀ x ∈ u8n l, 0 ≤ x ∧ x < 256 := by
  intro x hx
  obtain ⟨b, _, rfl⟩ := List.mem_map.1 hx
  have := b.toNat_lt
  omega
theorem RdW.bytes {w : World} {A : Option Addr} {n c : Nat} {l : List UInt8} (h : RdW w A n c (l.map u8v)) : (u8n l).length = n ∧ (A = none → c = 0) ∧ Lib.BytesIn w A n (u8n l) := by
  have h1 := h.len
  simp only [List.length_map] at h1
  refine ⟨by simp [u8n, h1], h.nil, ?_⟩
  intro hn
  cases A with
  | none => have := h.nil rfl; have := h.cap; omega
  | some a =>
    refine Lib.BytesIn.of_cells (a := a) ?_ hn
    intro i hi
    have hi' : i < l.length := by omega
    rw [u8n_getD l i hi']
    have := h.cells i (u8v l[i]) (by simp [hi'])
    simpa [sadr] using this

theorem Reads.drop_map {α : Type} {f : α → Value} {l : List α} {w0 : World} {cs : List SProp} {A : Option Addr} {n c lo : Nat} (hr : Reads w0 cs A n c (l.map f)) (h : lo ≤ n) : Reads w0 cs (cutA A c lo) (n - lo) (c - lo) ((l.drop lo).map f) := by
  intro w ho
  have h1 := (hr w ho).len
  have := (hr.cut h (Nat.le_refl _)) w ho
  rwa [List.take_of_length_le (by simp at h1 ⊢; omega), ← List.map_drop] at this
theorem Reads.take_map {α : Type} {f : α → Value} {l : List α} {w0 : World} {cs : List SProp} {A : Option Addr} {n c hi : Nat} (hr : Reads w0 cs A n c (l.map f)) (h : hi ≤ n) : Reads w0 cs A hi c ((l.take hi).map f) := by
  intro w ho
  have := (hr.cut (Nat.zero_le _) h) w ho
  have e : cutA A c 0 = A := by
    unfold cutA
    split
    · rfl
    · cases A with
      | none => rfl
      | some a => simp [Addr.add]
  rwa [e, List.drop_zero, Nat.sub_zero, Nat.sub_zero, ← List.map_take] at this
/-- bytes.Cut -/
theorem spec_cut {w0 : World} (hG : Gl w0) {cs : List SProp} {A B : Option Addr} {n c k c2 : Nat} {l s : List UInt8} (hr : Reads w0 cs A n c (l.map u8v)) (hs : Reads w0 cs B k c2 (s.map u8v)) (hn : n < 4294967281) :
    Spec Tryd.prog w0 42 [.slice A n c, .slice B k c2] cs (fun v cs' => v = Lib.cutV A n c k (Lib.index l s) ∧ cs' = cs) := by
  refine Spec.of_drawn fun w ho => ?_
  obtain ⟨m, hm⟩ := hG.maxLen
  have r1 := (hr w ho).bytes
  have r2 := (hs w ho).bytes
  have hk := (hs w ho).cap
  have hk2 := (hs w ho).max
  simp only [Go.maxLen] at hk2
  have := Tryd.bytes_Cut_all A B n c k c2 (u8n l) (u8n s) m w r1.1 r2.1 (u8n_range l) (u8n_range s) r1.2.2 r2.2.2 r1.2.1 (hr w ho).cap hn (by omega) (ho.base_cell hm)
  rw [u8n_bytes, u8n_bytes] at this
  exact this
/-- bytes.Clone -/
theorem spec_bclone {w0 : World} {cs : List SProp} {A : Option Addr} {n c : Nat} {l : List UInt8} (hr : Reads w0 cs A n c (l.map u8v)) (hn : n ≤ 140737488355328) :
    Spec Tryd.prog w0 43 [.slice A n c] cs (fun v cs' => ∃ A' c', v = .slice A' n c' ∧ cs' = osl 5 A' n c' (l.map u8v) :: cs) := by
  intro w ho
  have hw := hr w ho
  have h1 := hw.len
  simp only [List.length_map] at h1
  cases A with
  | none =>
    have h0 := hw.nil rfl
    have := hw.cap
    have hn0 : n = 0 := by omega
    subst hn0
    have : l = [] := List.eq_nil_of_length_eq_zero h1
    subst this
    refine (Tryd.bytes_Clone_nil 0 c w).mono fun e w' ⟨he, hw'⟩ => ?_
    subst hw'
    exact ⟨_, _, he, ⟨none, 0, rfl, rfl⟩, Own.nil_osl _ ho⟩
  | some a =>
    refine (Tryd.bytes_Clone_at a n c (u8n l) w (by simp [u8n, h1]) hn ?_).mono ?_
    · intro i hi
      have hi' : i < l.length := by omega
      rw [u8n_getD l i hi']
      have := hw.cells i (u8v l[i]) (by simp [hi'])
      simpa [sadr] using this
    · rintro e w' ⟨v', he, hrow, _, hb⟩
      have e1 : (u8n l).map (Value.int .u8) = l.map u8v := by simp [u8n]
      rw [e1] at hrow
      obtain ⟨A', c', rfl, ho'⟩ := Own.of_row ho hrow hb (ones_map (fun _ => rfl) _)
      exact ⟨_, _, he, ⟨A', c', rfl, rfl⟩, ho'⟩
/-- slices.Clone: the walk -/
theorem H.zero {N : Nat} {w0 : World} {e : Env} {cs : List SProp} {J : Act → World → Prop} (et : TypeId) (A : Option Addr) (h : H N w0 e (osl et A 0 0 [] :: cs) J) : H N w0 e cs J := h.conv fun _ ho => ho.zero_osl et A

theorem spec_sclone {w0 : World} {cs : List SProp} {A : Option Addr} {n c : Nat} {l : List (List UInt8)} (hr : Reads w0 cs A n c (l.map str)) (hn : n * 16 ≤ 140737488355328) :
    Spec Tryd.prog w0 20 [.slice A n c] cs (fun v cs' => ∃ A' c', v = .slice A' n c' ∧ cs' = osl 9 A' n c' (l.map str) :: cs) := by
  refine Spec.of_body Tryd.func20 rfl Tryd.ntmps20 rfl ?_
  refine H.fact (fun w hw => (hr w hw).facts) fun ⟨hl, hcap, hmax, hnil⟩ => ?_
  refine H.seq ?_
  refine H.region ?_
  refine Ops.quiet (Qt.assign rfl) rfl ?_
  refine Ops.nil ?_
  refine H.then_normal ?_
  refine H.seq ?_
  refine H.seq ?_
  refine H.region ?_
  refine Ops.quiet (Qt.move rfl) rfl ?_
  refine Ops.quiet (Qt.sl_eq_nil rfl (tk rfl)) rfl ?_
  refine Ops.nil ?_
  refine H.then_normal ?_
  refine H.cond rfl (fun h4 => ?_) (fun h4 => ?_)
  · try simp only [decide_eq_true_eq, decide_eq_false_iff_not, beq_iff_eq, beq_eq_false_iff_ne, bne_iff_ne, ne_eq, Bool.not_eq_true', Bool.not_eq_false', bne_eq_false_iff_eq, Bool.not_eq_eq_eq_not, Bool.not_true, Bool.not_false] at h4
    have hA : A = none := by simpa using h4
    have hc0 := hnil hA
    have hn0 : n = 0 := by omega
    have hl0 : l = [] := List.eq_nil_of_length_eq_zero (by simpa [hn0] using hl)
    subst hl0 hn0
    refine H.seq ?_
    refine H.region ?_
    refine Ops.quiet (Qt.assign rfl) rfl ?_
    refine Ops.nil ?_
    refine H.then_normal ?_
    refine H.ret ?_
    refine H.then_ret ?_
    refine H.zero 9 none ?_
    refine (H.ends rfl (.cons (.tmp rfl) .nil) ?_)
    exact ⟨none, 0, rfl, rfl⟩
  · try simp only [decide_eq_true_eq, decide_eq_false_iff_not, beq_iff_eq, beq_eq_false_iff_ne, bne_iff_ne, ne_eq, Bool.not_eq_true', Bool.not_eq_false', bne_eq_false_iff_eq, Bool.not_eq_eq_eq_not, Bool.not_true, Bool.not_false] at h4
    refine H.skip ?_
    refine H.then_normal ?_
    refine H.seq ?_
    refine H.region ?_
    refine Ops.eff (Ef.buildSlice (tk rfl) (tk rfl) rfl (zk rfl) rfl rfl rfl (by repeat (first | exact ones_nil | refine ones_cons rfl ?_))) rfl ?_
    rintro _ _ ⟨A5, c5, rfl, rfl⟩
    refine Ops.quiet (Qt.move rfl) rfl ?_
    refine Ops.eff (Ef.append rfl rfl (tk rfl) (tk rfl) rfl (zk rfl) (by repeat (first | assumption | exact Reads.of_head | apply Reads.tail)) (by intro _ _; repeat (first | exact Upd.head | apply Upd.tail)) (ones_map (fun _ => rfl) _) (by dsimp only; omega) (by simp only [Go.maxLen]; omega)) rfl ?_
    rintro _ _ ⟨A7, c7, rfl, rfl⟩
    refine Ops.quiet (Qt.assign rfl) rfl ?_
    refine Ops.nil ?_
    refine H.then_normal ?_
    refine H.ret ?_
    refine (H.ends rfl (.cons (.tmp rfl) .nil) ?_)
    exact ⟨A7, c7, by simp [retV], by simp⟩

theorem spec_iclone {w0 : World} {cs : List SProp} {A : Option Addr} {n c : Nat} {l : List Int} (hr : Reads w0 cs A n c (l.map num)) (hn : n * 8 ≤ 140737488355328) :
    Spec Tryd.prog w0 34 [.slice A n c] cs (fun v cs' => ∃ A' c', v = .slice A' n c' ∧ cs' = osl 3 A' n c' (l.map num) :: cs) := by
  refine Spec.of_body Tryd.func34 rfl Tryd.ntmps34 rfl ?_
  refine H.fact (fun w hw => (hr w hw).facts) fun ⟨hl, hcap, hmax, hnil⟩ => ?_
  refine H.seq ?_
  refine H.region ?_
  refine Ops.quiet (Qt.assign rfl) rfl ?_
  refine Ops.nil ?_
  refine H.then_normal ?_
  refine H.seq ?_
  refine H.seq ?_
  refine H.region ?_
  refine Ops.quiet (Qt.move rfl) rfl ?_
  refine Ops.quiet (Qt.sl_eq_nil rfl (tk rfl)) rfl ?_
  refine Ops.nil ?_
  refine H.then_normal ?_
  refine H.cond rfl (fun h4 => ?_) (fun h4 => ?_)
  · try simp only [decide_eq_true_eq, decide_eq_false_iff_not, beq_iff_eq, beq_eq_false_iff_ne, bne_iff_ne, ne_eq, Bool.not_eq_true', Bool.not_eq_false', bne_eq_false_iff_eq, Bool.not_eq_eq_eq_not, Bool.not_true, Bool.not_false] at h4
    have hA : A = none := by simpa using h4
    have hc0 := hnil hA
    have hn0 : n = 0 := by omega
    have hl0 : l = [] := List.eq_nil_of_length_eq_zero (by simpa [hn0] using hl)
    subst hl0 hn0
    refine H.seq ?_
    refine H.region ?_
    refine Ops.quiet (Qt.assign rfl) rfl ?_
    refine Ops.nil ?_
    refine H.then_normal ?_
    refine H.ret ?_
    refine H.then_ret ?_
    refine H.zero 3 none ?_
    refine (H.ends rfl (.cons (.tmp rfl) .nil) ?_)
    exact ⟨none, 0, rfl, rfl⟩
  · try simp only [decide_eq_true_eq, decide_eq_false_iff_not, beq_iff_eq, beq_eq_false_iff_ne, bne_iff_ne, ne_eq, Bool.not_eq_true', Bool.not_eq_false', bne_eq_false_iff_eq, Bool.not_eq_eq_eq_not, Bool.not_true, Bool.not_false] at h4
    refine H.skip ?_
    refine H.then_normal ?_
    refine H.seq ?_
    refine H.region ?_
    refine Ops.eff (Ef.buildSlice (tk rfl) (tk rfl) rfl (zk rfl) rfl rfl rfl (by repeat (first | exact ones_nil | refine ones_cons rfl ?_))) rfl ?_
    rintro _ _ ⟨A5, c5, rfl, rfl⟩
    refine Ops.quiet (Qt.move rfl) rfl ?_
    refine Ops.eff (Ef.append rfl rfl (tk rfl) (tk rfl) rfl (zk rfl) (by repeat (first | assumption | exact Reads.of_head | apply Reads.tail)) (by intro _ _; repeat (first | exact Upd.head | apply Upd.tail)) (ones_map (fun _ => rfl) _) (by dsimp only; omega) (by simp only [Go.maxLen]; omega)) rfl ?_
    rintro _ _ ⟨A7, c7, rfl, rfl⟩
    refine Ops.quiet (Qt.assign rfl) rfl ?_
    refine Ops.nil ?_
    refine H.then_normal ?_
    refine H.ret ?_
    refine (H.ends rfl (.cons (.tmp rfl) .nil) ?_)
    exact ⟨A7, c7, by simp [retV], by simp⟩

theorem spec_iclip {w0 : World} {cs : List SProp} {A : Option Addr} {n c : Nat} {xs : List Value} (hr : Reads w0 cs A n c xs) :
    Spec Tryd.prog w0 33 [.slice A n c] cs (fun v cs' => v = .slice (cutA A n 0) n n ∧ cs' = cs) := by
  refine Spec.of_body Tryd.func33 rfl Tryd.ntmps33 rfl ?_
  refine H.fact (fun w hw => (hr w hw).facts) fun ⟨hl, hcap, hmax, hnil⟩ => ?_
  refine H.seq ?_
  refine H.region ?_
  refine Ops.quiet (Qt.assign rfl) rfl ?_
  refine Ops.nil ?_
  refine H.then_normal ?_
  refine H.seq ?_
  refine H.region ?_
  refine Ops.quiet (Qt.move rfl) rfl ?_
  refine Ops.quiet (Qt.move rfl) rfl ?_
  refine Ops.quiet (Qt.len_sl (ats := #[]) rfl (tk rfl)) rfl ?_
  refine Ops.quiet (Qt.move rfl) rfl ?_
  refine Ops.quiet (Qt.len_sl (ats := #[]) rfl (tk rfl)) rfl ?_
  refine Ops.quiet (Qt.slice3 rfl (tk rfl) (tk rfl) rfl rfl rfl rfl (by omega) (by omega) (by omega) (by omega)) rfl ?_
  refine Ops.quiet (Qt.assign rfl) rfl ?_
  refine Ops.nil ?_
  refine H.then_normal ?_
  refine H.ret ?_
  refine (H.ends rfl (.cons (.tmp rfl) .nil) ?_)
  exact ⟨by simp [retV], rfl⟩

theorem cutA_zero (A : Option Addr) (n : Nat) : cutA A n 0 = A := by
  unfold cutA
  split
  · rfl
  · cases A with
    | none => rfl
    | some a => simp [Addr.add]
theorem spec_icontains {w0 : World} {cs : List SProp} {A : Option Addr} {n c : Nat} {l : List Int} (hr : Reads w0 cs A n c (l.map num)) (x : Int) :
    Spec Tryd.prog w0 60 [.slice A n c, num x] cs (fun v cs' => v = .bool (l.contains x) ∧ cs' = cs) := by
  refine Spec.of_same fun w ho => ?_
  have hw := hr w ho
  have h1 := hw.len
  simp only [List.length_map] at h1
  by_cases h0 : n = 0
  · subst h0
    have : l = [] := List.eq_nil_of_length_eq_zero h1
    subst this
    exact Tryd.slices_Contains_int_empty A c x w
  · cases A with
    | none => have := hw.nil rfl; have := hw.cap; omega
    | some a =>
      have hcell : ∀ j (hj : j < l.length), w.cell? (a.add j) = some (num l[j]) := fun j hj => by
        have := hw.cells j (num l[j]) (by simp [hj])
        simpa [sadr] using this
      obtain ⟨b, o, s⟩ := a
      obtain rfl : s = none := by
        have := hcell 0 (by omega)
        simpa [Addr.add] using World.cell?_spot this
      have := Tryd.slices_Contains_int b o n c l x w (by omega) (by have := hw.max; simp only [Go.maxLen] at this; have := hw.cap; omega) (fun j hj => by
        have := hcell j hj
        rw [add_lit] at this
        rw [this]; simp [List.getD_eq_getElem?_getD, hj])
      rw [List.take_of_length_le (by omega)] at this
      exact this
/-- bytes.IndexByte -/
theorem spec_bindex {w0 : World} {cs : List SProp} {A : Option Addr} {n c : Nat} {l : List UInt8} (hr : Reads w0 cs A n c (l.map u8v)) (x : UInt8) :
    Spec Tryd.prog w0 44 [.slice A n c, u8v x] cs (fun v cs' => v = num (Lib.indexByte l x) ∧ cs' = cs) := by
  refine Spec.of_same fun w ho => ?_
  have hw := hr w ho
  have h1 := hw.len
  simp only [List.length_map] at h1
  cases A with
  | none =>
    have := hw.nil rfl
    have := hw.cap
    have hn : n = 0 := by omega
    have hc : c = 0 := by omega
    subst hn hc
    have : l = [] := List.eq_nil_of_length_eq_zero h1
    subst this
    exact Tryd.bytes_IndexByte_nil x.toNat w
  | some a =>
    have := Tryd.bytes_IndexByte_at a n c (u8n l) x.toNat w (by simp [u8n, h1]) (fun i hi => by
      have hi' : i < l.length := by omega
      rw [u8n_getD l i hi']
      have := hw.cells i (u8v l[i]) (by simp [hi'])
      simpa [sadr] using this)
    rw [u8n_bytes] at this
    have e1 : (x.toNat : Int).toNat.toUInt8 = x := by simp
    rw [e1] at this
    exact this
/-- strings.IndexByte, HasPrefix -/
theorem spec_sindex {w0 : World} {cs : List SProp} (l : List UInt8) (x : Int) :
    Spec Tryd.prog w0 51 [str l, .int .u8 x] cs (fun v cs' => v = num (Lib.indexByte l x.toNat.toUInt8) ∧ cs' = cs) :=
  Spec.of_same fun w ho => Tryd.strings_IndexByte ⟨⟨l⟩⟩ x w
theorem spec_hasprefix {w0 : World} {cs : List SProp} (l p : List UInt8) :
    Spec Tryd.prog w0 39 [str l, str p] cs (fun v cs' => v = .bool (Lib.hasPrefix l p) ∧ cs' = cs) :=
  Spec.of_same fun w ho => Tryd.strings_HasPrefix ⟨⟨l⟩⟩ ⟨⟨p⟩⟩ w
/-- strconv.Atoi of a number -/
theorem spec_atoi {w0 : World} {cs : List SProp} {l : List UInt8} {n : Int} (h : Lib.atoiAll l = .ok n) (hl : l.length ≤ 9223372036854775806) :
    Spec Tryd.prog w0 57 [str l] cs (fun v cs' => v = .tuple #[num n, .nilIface] ∧ cs' = cs) := fun w ho =>
  (Tryd.strconv_Atoi_ok ⟨⟨l⟩⟩ hl n h w).mono fun e w' ⟨he, hw'⟩ => ⟨_, cs, he, ⟨rfl, rfl⟩, by
    rcases hw' with rfl | ⟨t, rfl⟩
    · exact ho
    · exact ho.same ⟨rfl, rfl, rfl, by rw [Lib.bytesWorld_size]; omega, fun k hk _ => Lib.bytesWorld_at_old w _ t k hk⟩⟩
end Go.Proofs.YtimldpbddkhedaaDoor
