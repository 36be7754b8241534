/- The library's contracts (laid off the shelf at this program) as specifications of the separation logic. -/
import Derived.Test.YtbglphpinhjfeaaGreatDoorTab
import Derived.Test.YtbglphpinhjfeaaGreatDoorShf
import Derived.Lib.Bytes
namespace Go.Proofs.YtbglphpinhjfeaaGreatDoor
open Go Go.RowKit
set_option maxRecDepth 100000
set_option linter.unusedVariables false
set_option linter.unusedSimpArgs false

theorem Own.drewN {w0 w : World} {cs : List SProp} (h : Own w0 w cs) (n : Nat) : Own w0 (w.drewN n) cs := h.same ⟨rfl, rfl, rfl, Nat.le_refl _, fun _ _ _ => rfl⟩
/-- A call that leaves memory alone but for draws. -/
theorem Spec.of_drawn {P : Program} {w0 : World} {f : FuncId} {args : List Value} {cs : List SProp} {v : Value} (h : ∀ w, Own w0 w cs → Calls P f args.toArray w fun e w' => e = .returned v ∧ ∃ q, w' = w.drewN q) :
    Spec P w0 f args cs (fun u cs' => u = v ∧ cs' = cs) := fun w ho => (h w ho).mono fun e w' ⟨h1, q, h2⟩ => ⟨v, cs, h1, ⟨rfl, rfl⟩, by rw [h2]; exact ho.drewN q⟩
theorem Spec.of_same {P : Program} {w0 : World} {f : FuncId} {args : List Value} {cs : List SProp} {v : Value} (h : ∀ w, Own w0 w cs → Calls P f args.toArray w fun e w' => e = .returned v ∧ w' = w) :
    Spec P w0 f args cs (fun u cs' => u = v ∧ cs' = cs) := fun w ho => (h w ho).mono fun e w' ⟨h1, h2⟩ => ⟨v, cs, h1, ⟨rfl, rfl⟩, by rw [h2]; exact ho⟩
/-- A call that makes new blocks, of which one is the slice that it hands back. -/
theorem Own.of_row {w0 w w' : World} {cs : List SProp} {el n : Nat} {v' : Value} {xs : List Value} (ho : Own w0 w cs) (hr : w'.ownsRow w.heap.size el 1 v' n xs) (hb : Below w.heap.size w w') (h1 : Ones xs) : ∃ A c, v' = .slice A n c ∧ Own w0 w' (osl el A n c xs :: cs) := by
  have hxl : xs.length = n := by have := hr.1; omega
  rcases hr.2 with ⟨rfl, h0⟩ | ⟨g, cap, cur, rfl, hg, hh, hnc, hcm, hcs, ht⟩
  · subst h0
    have : xs = [] := List.eq_nil_of_length_eq_zero hxl
    subst this
    exact ⟨none, 0, rfl, Own.nil_osl el (ho.same ⟨hb.os, hb.tape, hb.output, hb.size, fun k hk _ => hb.block k hk⟩)⟩
  · refine ⟨_, cap, rfl, Own.frame0 ho ⟨hb.os, hb.tape, hb.output, hb.size, fun k hk _ => hb.block k hk⟩ ⟨[(g, .cells cur el (0, 0))], ⟨⟨hxl, hnc, hcm⟩, .inr ⟨g, 0, cur.toList, (0, 0), rfl, by simp [hcs], .inl rfl, by simpa using ht, h1, by simp⟩⟩, by simp, ?_, ?_⟩⟩
    · intro p hp; rw [List.mem_singleton.1 hp]; exact hh
    · intro p hp; rw [List.mem_singleton.1 hp]; exact hg
/-- What the base world's variables hold. -/
structure Gl (w0 : World) : Prop where
  maxLen : ∃ m : Int, w0.cell? ⟨3, 0, none⟩ = some (.int .i64 m)
theorem Own.base_cell {w0 w : World} {cs : List SProp} (ho : Own w0 w cs) {a : Addr} {v : Value} (h : w0.cell? a = some v) : w.cell? a = some v := by
  have hb := World.block_lt_of_cell? w0 a h
  have := ho.below.block a.block hb
  simp only [World.cell?, this] at h ⊢
  exact h

def u8n (l : List UInt8) : List Int := l.map fun b => (b.toNat : Int)
theorem u8n_bytes (l : List UInt8) : Lib.bytesOf (u8n l) = l := by
  simp only [Lib.bytesOf, u8n, List.map_map]
  have : ((fun n : Int => UInt8.ofNat n.toNat) ∘ fun b : UInt8 => (b.toNat : Int)) = id := by funext b; simp
  rw [this, List.map_id]
theorem u8n_getD (l : List UInt8) (i : Nat) (h : i < l.length) : (u8n l).getD i 0 = ((l[i]).toNat : Int) := by
  simp [u8n, List.getD_eq_getElem?_getD, h]
theorem u8n_range (l : List UInt8) : ∀ x ∈ u8n l, 0 ≤ x ∧ x < 256 := by
  intro x hx
  obtain ⟨b, _, rfl⟩ := List.mem_map.1 hx
  have := b.toNat_lt
  omega
theorem Reads.clip {w0 : World} {cs : List SProp} {A : Option Addr} {n c : Nat} {xs : List Value} (h : Reads w0 cs A n c xs) : Reads w0 cs A n n xs := fun w ho => by
  obtain ⟨h1, h2, h3, h4, h5⟩ := h w ho
  exact ⟨h1, Nat.le_refl _, Nat.le_trans h2 h3, fun e => by have := h4 e; omega, h5⟩
theorem Reads.drop_map {α : Type} {f : α → Value} {l : List α} {w0 : World} {cs : List SProp} {A : Option Addr} {n c lo : Nat} (hr : Reads w0 cs A n c (l.map f)) (h : lo ≤ n) : Reads w0 cs (cutA A c lo) (n - lo) (c - lo) ((l.drop lo).map f) := by
  intro w ho
  have h1 := (hr w ho).len
  have := (hr.cut h (Nat.le_refl _)) w ho
  rwa [List.take_of_length_le (by simp at h1 ⊢; omega), ← List.map_drop] at this
theorem Reads.take_map {α : Type} {f : α → Value} {l : List α} {w0 : World} {cs : List SProp} {A : Option Addr} {n c hi : Nat} (hr : Reads w0 cs A n c (l.map f)) (h : hi ≤ n) : Reads w0 cs A hi c ((l.take hi).map f) := by
  intro w ho
  have := (hr.cut (Nat.zero_le _) h) w ho
  have e : cutA A c 0 = A := by
    unfold cutA
    split
    · rfl
    · cases A with
      | none => rfl
      | some a => simp [Addr.add]
  rwa [e, List.drop_zero, Nat.sub_zero, Nat.sub_zero, ← List.map_take] at this
/-- slices.Clone: the walk -/
theorem H.zero {N : Nat} {w0 : World} {e : Env} {cs : List SProp} {J : Act → World → Prop} (et : TypeId) (A : Option Addr) (h : H N w0 e (osl et A 0 0 [] :: cs) J) : H N w0 e cs J := h.conv fun _ ho => ho.zero_osl et A

theorem cutA_zero (A : Option Addr) (n : Nat) : cutA A n 0 = A := by
  unfold cutA
  split
  · rfl
  · cases A with
    | none => rfl
    | some a => simp [Addr.add]
/-- strings.IndexByte, HasPrefix -/
theorem spec_sindex {w0 : World} {cs : List SProp} (l : List UInt8) (x : Int) :
    Spec Tryz.prog w0 68 [str l, .int .u8 x] cs (fun v cs' => v = num (Lib.indexByte l x.toNat.toUInt8) ∧ cs' = cs) :=
  Spec.of_same fun w ho => Tryz.strings_IndexByte ⟨⟨l⟩⟩ x w
theorem spec_hasprefix {w0 : World} {cs : List SProp} (l p : List UInt8) :
    Spec Tryz.prog w0 39 [str l, str p] cs (fun v cs' => v = .bool (Lib.hasPrefix l p) ∧ cs' = cs) :=
  Spec.of_same fun w ho => Tryz.strings_HasPrefix ⟨⟨l⟩⟩ ⟨⟨p⟩⟩ w
/-- strconv.Atoi of a number -/
theorem spec_atoi {w0 : World} {cs : List SProp} {l : List UInt8} {n : Int} (h : Lib.atoiAll l = .ok n) (hl : l.length ≤ 9223372036854775806) :
    Spec Tryz.prog w0 60 [str l] cs (fun v cs' => v = .tuple #[num n, .nilIface] ∧ cs' = cs) := fun w ho =>
  (Tryz.strconv_Atoi_ok ⟨⟨l⟩⟩ hl n h w).mono fun e w' ⟨he, hw'⟩ => ⟨_, cs, he, ⟨rfl, rfl⟩, by
    rcases hw' with rfl | ⟨t, rfl⟩
    · exact ho
    · exact ho.same ⟨rfl, rfl, rfl, by rw [Lib.bytesWorld_size]; omega, fun k hk _ => Lib.bytesWorld_at_old w _ t k hk⟩⟩
end Go.Proofs.YtbglphpinhjfeaaGreatDoor
