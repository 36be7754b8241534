/- What the rows of the laws about messages share: a message as an argument. -/
import Derived.Test.YtbglphpinhjfeaaGreatDoorCrw
import Derived.Test.YtbglphpinhjfeaaGreatDoorBrh
import Derived.Test.YtbglphpinhjfeaaGreatDoorMsg
import Derived.LaidSub
namespace Go.Proofs.YtbglphpinhjfeaaGreatDoor
open Go.ChangeShapes Go.WideShapes Go.ChangeAt Go.RowKit
set_option maxRecDepth 100000
set_option linter.unusedVariables false
/-- A []int that was passed in. -/
theorem open_intl {H : Type} {enc : TypeId × Value → H} {P : Program} {W : World} {t e fuel len cap : Nat} {a0 : Option Addr} {x : DataW H × List MemPlace} (ht : P.underlying t = some (.slice e)) (he : P.underlying e = some (.int .i64)) (hc : P.cellsOf e = 1) (hb : P.bytesOf e = 8)
    (h : DataW.trod enc P W 0 (fun _ => true) true fuel t [.slice a0 len cap] = some x) : ∃ l : List Int, (∀ cs, Reads W cs a0 len cap (l.map num)) ∧ (len = 0 ∨ ∃ m ∈ x.1.weights P t, len * 8 ≤ m) := by
  rcases open_ints ht he hc h with ⟨h1, _⟩ | ⟨a, len', cap', zs, h1, _, h2, h3, h4, rfl, h5, h6⟩
  · simp only [List.cons.injEq, Value.slice.injEq, and_true] at h1
    obtain ⟨rfl, rfl, rfl⟩ := h1
    exact ⟨[], fun cs => reads_base rfl (Nat.le_refl _) (by simp [maxLen]) (fun _ => rfl) (fun j x h => by simp at h), .inl rfl⟩
  · simp only [List.cons.injEq, Value.slice.injEq, and_true] at h1
    obtain ⟨rfl, rfl, rfl⟩ := h1
    simp only [if_true] at h4
    refine ⟨zs.take len, fun cs => reads_base (by simp; omega) h2 h3 (fun e => by cases e) ?_, .inr ⟨((lits (H := H) .i64 (zs.take len)).length + (lits (H := H) .i64 (zs.drop len)).length) * P.bytesOf e, ?_, ?_⟩⟩
    · intro j x hx
      simp only [List.getElem?_map, Option.map_eq_some_iff] at hx
      obtain ⟨z, hz, rfl⟩ := hx
      have hj : j < len := by
        have := (List.getElem?_eq_some_iff.1 hz).1
        simp at this; omega
      have hz2 : zs[j]? = some z := by rwa [List.getElem?_take_of_lt hj] at hz
      have := h5 j (by omega)
      show W.cell? (a.add j) = some (.int .i64 z)
      rw [this]
      simp [List.getD_eq_getElem?_getD, hz2]
    · simp only [DataW.weights, ht]
      exact .head _
    · rw [hb]
      simp only [lits, List.length_map, List.length_take, List.length_drop]
      omega
theorem weightsEach_at {H : Type} {P : Program} : ∀ {ts : List TypeId} {ds : List (DataW H)} {i : Nat} {t : TypeId} {d : DataW H} {m : Nat}, ts[i]? = some t → ds[i]? = some d → m ∈ d.weights P t → m ∈ DataW.weightsEach P ts ds
  | t :: ts, d :: ds, 0, t', d', m, h1, h2, hm => by
    obtain rfl : t = t' := by simpa using h1
    obtain rfl : d = d' := by simpa using h2
    simp only [DataW.weightsEach]
    exact List.mem_append_left _ hm
  | t :: ts, d :: ds, i + 1, t', d', m, h1, h2, hm => by
    simp only [DataW.weightsEach]
    exact List.mem_append_right _ (weightsEach_at (i := i) (by simpa using h1) (by simpa using h2) hm)
theorem trod_i64 {H : Type} {enc : TypeId × Value → H} {P : Program} {W : World} {t fuel : Nat} {v : Value} {x : DataW H × List MemPlace} (ht : P.underlying t = some (.int .i64)) (h : DataW.trod enc P W 0 (fun _ => true) true fuel t [v] = some x) : ∃ z, v = num z := by
  obtain ⟨z, h1, _⟩ := DataW.trod_int ht h
  exact ⟨z, by simpa using h1⟩
theorem trod_bs {H : Type} {enc : TypeId × Value → H} {P : Program} {W : World} {t fuel : Nat} {v : Value} {x : DataW H × List MemPlace} (ht : P.underlying t = some .string) (h : DataW.trod enc P W 0 (fun _ => true) true fuel t [v] = some x) : ∃ l : Bs, v = str l ∧ l.length ∈ x.1.weights P t := by
  obtain ⟨s, h1, rfl, _⟩ := DataW.trod_string ht h
  refine ⟨s.data.toList, ?_, by simp [DataW.weights]⟩
  have : v = .string s := by simpa using h1
  exact this.trans (congrArg Value.string (ba_eq s).symm)
theorem trod_sl {H : Type} {enc : TypeId × Value → H} {P : Program} {W : World} {t e fuel : Nat} {v : Value} {x : DataW H × List MemPlace} (ht : P.underlying t = some (.slice e)) (h : DataW.trod enc P W 0 (fun _ => true) true fuel t [v] = some x) : ∃ A n c, v = .slice A n c := by
  rcases DataW.trod_slice ht h with ⟨h1, _⟩ | ⟨a, len', cap', elems, rest, n, _, h1, _⟩
  · exact ⟨none, 0, 0, by simpa using h1⟩
  · exact ⟨some a, len', cap', by simpa using h1⟩
theorem array9 {α : Type} {cs : Array α} (h : cs.size = 9) : ∃ c0 c1 c2 c3 c4 c5 c6 c7 c8, cs = #[c0, c1, c2, c3, c4, c5, c6, c7, c8] := by
  obtain ⟨l⟩ := cs
  match l, h with
  | [c0, c1, c2, c3, c4, c5, c6, c7, c8], _ => exact ⟨c0, c1, c2, c3, c4, c5, c6, c7, c8, rfl⟩
theorem Reads.nlen {w0 w : World} {cs : List SProp} {A : Option Addr} {n c : Nat} {xs : List Value} (h : Reads w0 cs A n c xs) (ho : Own w0 w cs) : xs.length = n := (h w ho).len
theorem lt9 {i : Nat} {α : Type} {xs : List α} (hx : xs.length = 9) (h : i < 9) : xs[i]? = some (xs[i]'(by omega)) := List.getElem?_eq_getElem _
theorem fld {H : Type} {enc : TypeId × Value → H} {P : Program} {W : World} {t n : Nat} {f : Field} {cs : List Value} {v : Value} {x : DataW H × List MemPlace} (h : DataW.trod enc P W 0 (fun _ => true) true n f.type ((cs.drop f.offset).take (P.cellsOf f.type)) = some x) (hc : P.cellsOf t = 1) (ht : f.type = t) (hv : (cs.drop f.offset).take 1 = [v]) :
    DataW.trod enc P W 0 (fun _ => true) true n t [v] = some x := by
  subst ht
  rwa [hc, hv] at h
/-- A message that was passed in. -/
theorem open_msg {H : Type} {enc : TypeId × Value → H} {W : World} {b0 : Nat} {v : Value} {d : DataW H} {p : List MemPlace} (hval : Value.okWide Tryz.prog W .any b0 25 v) (hd : DataW.Trod enc Tryz.prog W 0 (fun _ => true) true 25 v d p)
    (hw : ∀ m ∈ d.weights Tryz.prog 25, m ≤ 140737488351232) : ∃ (m : Mg) (a : Ma), v = m.v a ∧ (∀ cs, MR W cs m a) ∧ MA m a := by
  have hu := Tryz.underlying25
  obtain ⟨cs, rfl, hsz⟩ := okWide_struct hu hval
  have hsz9 : cs.size = 9 := hsz.trans (by kernel_rfl)
  obtain ⟨c0, c1, c2, c3, c4, c5, c6, c7, c8, rfl⟩ := array9 hsz9
  obtain ⟨fuel, hf⟩ := hd
  obtain ⟨xs, n, _, hx, _, hlen, hat⟩ := DataW.trod_struct hu hf
  have hx9 : xs.length = 9 := hlen.trans rfl
  have hd : d = .agg (xs.map (·.1)) := congrArg Prod.fst hx
  subst hd
  have hww : ∀ (i : Nat) (t : TypeId) (x : DataW H × List MemPlace) (m : Nat), ([3, 3, 3, 3, 3, 9, 22, 23, 22] : List TypeId)[i]? = some t → xs[i]? = some x → m ∈ x.1.weights Tryz.prog t → m ≤ 140737488351232 := by
    intro i t x m h1 h2 h3
    refine hw m ?_
    simp only [DataW.weights, hu]
    exact weightsEach_at (i := i) h1 (by simp [h2]) h3
  have ki : Tryz.prog.cellsOf 3 = 1 := by kernel_rfl
  have ks : Tryz.prog.cellsOf 9 = 1 := by kernel_rfl
  have kl : Tryz.prog.cellsOf 22 = 1 := by kernel_rfl
  have km : Tryz.prog.cellsOf 23 = 1 := by kernel_rfl
  have h0 := fld (t := 3) (v := c0) ((hat 0 _ rfl).trans (lt9 hx9 (by omega))) ki rfl rfl
  have h1 := fld (t := 3) (v := c1) ((hat 1 _ rfl).trans (lt9 hx9 (by omega))) ki rfl rfl
  have h2 := fld (t := 3) (v := c2) ((hat 2 _ rfl).trans (lt9 hx9 (by omega))) ki rfl rfl
  have h3 := fld (t := 3) (v := c3) ((hat 3 _ rfl).trans (lt9 hx9 (by omega))) ki rfl rfl
  have h4 := fld (t := 3) (v := c4) ((hat 4 _ rfl).trans (lt9 hx9 (by omega))) ki rfl rfl
  have h5 := fld (t := 9) (v := c5) ((hat 5 _ rfl).trans (lt9 hx9 (by omega))) ks rfl rfl
  have h6 := fld (t := 22) (v := c6) ((hat 6 _ rfl).trans (lt9 hx9 (by omega))) kl rfl rfl
  have h7 := fld (t := 23) (v := c7) ((hat 7 _ rfl).trans (lt9 hx9 (by omega))) km rfl rfl
  have h8 := fld (t := 22) (v := c8) ((hat 8 _ rfl).trans (lt9 hx9 (by omega))) kl rfl rfl
  obtain ⟨z0, rfl⟩ := trod_i64 Tryz.underlying3 h0
  obtain ⟨z1, rfl⟩ := trod_i64 Tryz.underlying3 h1
  obtain ⟨z2, rfl⟩ := trod_i64 Tryz.underlying3 h2
  obtain ⟨z3, rfl⟩ := trod_i64 Tryz.underlying3 h3
  obtain ⟨z4, rfl⟩ := trod_i64 Tryz.underlying3 h4
  obtain ⟨l5, rfl, w5⟩ := trod_bs Tryz.underlying9 h5
  obtain ⟨A6, n6, k6, rfl⟩ := trod_sl Tryz.underlying22 h6
  obtain ⟨A7, n7, k7, rfl⟩ := trod_sl Tryz.underlying23 h7
  obtain ⟨A8, n8, k8, rfl⟩ := trod_sl Tryz.underlying22 h8
  obtain ⟨l6, r6, w6⟩ := open_strl Tryz.underlying22 Tryz.underlying9 ks h6
  obtain ⟨l7, r7, w7⟩ := open_intl Tryz.underlying23 Tryz.underlying3 ki (by kernel_rfl) h7
  obtain ⟨l8, r8, w8⟩ := open_strl Tryz.underlying22 Tryz.underlying9 ks h8
  have x6 := open_strl_len Tryz.underlying22 Tryz.underlying9 ks (by kernel_rfl) h6
  have x8 := open_strl_len Tryz.underlying22 Tryz.underlying9 ks (by kernel_rfl) h8
  have e6 : l6.length = n6 := by have := (r6 []).nlen (Own.start W); simpa using this
  have e7 : l7.length = n7 := by have := (r7 []).nlen (Own.start W); simpa using this
  have e8 : l8.length = n8 := by have := (r8 []).nlen (Own.start W); simpa using this
  refine ⟨⟨z0, z1, z2, z3, z4, l5, l6, l7, l8⟩, ⟨⟨A6, n6, k6⟩, ⟨A7, n7, k7⟩, ⟨A8, n8, k8⟩⟩, rfl, fun cs => ⟨r6 cs, r7 cs, r8 cs⟩, ?_⟩
  refine ⟨?_, ?_, ?_, ?_, ?_, ?_⟩
  · have := hww 5 _ _ _ rfl (lt9 hx9 (by omega)) w5
    show l5.length ≤ _; omega
  · intro s hs
    have := hww 6 _ _ _ rfl (lt9 hx9 (by omega)) (w6 s hs)
    omega
  · intro s hs
    have := hww 8 _ _ _ rfl (lt9 hx9 (by omega)) (w8 s hs)
    omega
  · show l6.length ≤ _
    rcases x6 with h | ⟨m, hm, hle⟩
    · omega
    · have := hww 6 _ _ _ rfl (lt9 hx9 (by omega)) hm
      omega
  · show l7.length ≤ _
    rcases w7 with h | ⟨m, hm, hle⟩
    · omega
    · have := hww 7 _ _ _ rfl (lt9 hx9 (by omega)) hm
      omega
  · show l8.length ≤ _
    rcases x8 with h | ⟨m, hm, hle⟩
    · omega
    · have := hww 8 _ _ _ rfl (lt9 hx9 (by omega)) hm
      omega
/-- The table of the powers of ten, from the row's condition. -/
theorem gp_of {W : World} {laid : List (String × DataW Unit)} (hs : W.ShapedOpen Tryz.prog) (hL : laidMetH Tryz.prog laid W) (he : laid.filter (fun x => x.1 == "internal/strconv.uint64pow10") = [("internal/strconv.uint64pow10", Lib.tabData .u64 Lib.pow10Tab)]) : Gp W := by
  have h1 := hL.filter (fun x => x.1 == "internal/strconv.uint64pow10")
  rw [he] at h1
  have h2 : laidMet Tryz.prog [("internal/strconv.uint64pow10", Lib.tabData .u64 Lib.pow10Tab)] W := h1
  exact ⟨gl_of hs, Lib.tabIs_of_head (g := 0) (t := 117) (e := 84) (n := 20) (by kernel_rfl) (by kernel_rfl) Tryz.underlying117 Tryz.underlying84 (by kernel_rfl) (by kernel_rfl) h2⟩
end Go.Proofs.YtbglphpinhjfeaaGreatDoor
