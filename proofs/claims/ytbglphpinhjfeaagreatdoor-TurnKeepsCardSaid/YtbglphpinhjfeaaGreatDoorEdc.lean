/- Messages as text: env.Decode takes back what was written. -/
import Derived.Test.YtbglphpinhjfeaaGreatDoorEnc
import Derived.Lib.AtoiAll
namespace Go.Proofs.YtbglphpinhjfeaaGreatDoor
open Go Go.RowKit
set_option maxRecDepth 100000
set_option linter.unusedVariables false
set_option linter.unusedSimpArgs false
attribute [local irreducible] Go.wpList Go.Code.wp Go.Exit.then Go.Exit.inBlock Go.Exit.noGoto Ends blk osl oblk LoopI Own Spec
/-! ### Plain facts -/
theorem digit_dec : ∀ (u : Nat), ∀ c ∈ Lib.decDigits u, 48 ≤ c.toNat ∧ c.toNat ≤ 57 := by
  intro u
  induction u using Nat.strongRecOn with
  | _ u ih =>
    intro c hc
    rw [Lib.decDigits] at hc
    split at hc
    · rename_i h
      rw [List.mem_singleton.1 hc]
      simp only [UInt8.toNat_ofNat']; omega
    · rename_i h
      rcases List.mem_append.1 hc with hc | hc
      · exact ih (u / 10) (by omega) c hc
      · rw [List.mem_singleton.1 hc]
        simp only [UInt8.toNat_ofNat']; omega
theorem dec_ne (u : Nat) : Lib.decDigits u ≠ [] := by
  rw [Lib.decDigits]
  split <;> simp
theorem parse_dec : ∀ (u : Nat), u < 1000000000000000000 → ∀ r, Lib.parseUint10 0 (Lib.decDigits u ++ r) = Lib.parseUint10 u r := by
  intro u
  induction u using Nat.strongRecOn with
  | _ u ih =>
    intro hu r
    rw [Lib.decDigits]
    have hd : ∀ d, d < 10 → (UInt8.ofNat (48 + d)).toNat = 48 + d := fun d h => by simp only [UInt8.toNat_ofNat']; omega
    split
    · rename_i h
      show Lib.parseUint10 0 (UInt8.ofNat (48 + u) :: r) = _
      conv => lhs; unfold Lib.parseUint10
      rw [hd u h, if_pos (by omega), if_neg (by omega), if_neg (by omega)]
      congr 1
      omega
    · rename_i h
      rw [List.append_assoc, ih (u / 10) (by omega) (by omega)]
      show Lib.parseUint10 (u / 10) (UInt8.ofNat (48 + u % 10) :: r) = _
      conv => lhs; unfold Lib.parseUint10
      rw [hd (u % 10) (by omega), if_pos (by omega), if_neg (by omega), if_neg (by omega)]
      congr 1
      omega
theorem atoi_itoa {n : Int} (h0 : 0 ≤ n) (h1 : n < 1000000000000000000) : Lib.atoiAll (Lib.itoa n) = .ok n := by
  have hn : ¬ n < 0 := by omega
  rw [Lib.itoa, if_neg hn]
  obtain ⟨c, r, hcr⟩ : ∃ c r, Lib.decDigits n.toNat = c :: r := by
    cases h : Lib.decDigits n.toNat with
    | nil => exact absurd h (dec_ne _)
    | cons c r => exact ⟨c, r, rfl⟩
  have hc := digit_dec n.toNat c (by rw [hcr]; exact .head _)
  have hp := parse_dec n.toNat (by omega) []
  rw [List.append_nil, hcr] at hp
  rw [hcr]
  unfold Lib.atoiAll
  have hne : ¬ (c.toNat = 43 ∨ c.toNat = 45) := by omega
  simp only [if_neg hne, Lib.parseMag, if_neg (List.cons_ne_nil c r), hp]
  have hs : Lib.parseUint10 n.toNat [] = .ok n.toNat := rfl
  simp only [hs]
  rw [if_neg (by omega), if_neg (by omega), if_neg (by omega)]
  congr 1
  omega
theorem no10_itoa {n : Int} (h0 : 0 ≤ n) : (10 : UInt8) ∉ Lib.itoa n := by
  have hn : ¬ n < 0 := by omega
  rw [Lib.itoa, if_neg hn]
  intro h
  have := digit_dec _ _ h
  simp at this
theorem mem_splitC {c x : UInt8} (hx : x ≠ c) : ∀ {s : Bs}, x ∈ s → ∃ a ∈ splitC c s, x ∈ a
  | y :: s, h => by
    unfold splitC
    split
    · rename_i hy
      rcases List.mem_cons.1 h with h | h
      · exact absurd (h.trans hy) hx
      · obtain ⟨a, h1, h2⟩ := mem_splitC hx h
        exact ⟨a, .tail _ h1, h2⟩
    · cases hs : splitC c s with
      | nil => exact absurd hs (splitC_ne c s)
      | cons p ps =>
        rcases List.mem_cons.1 h with h | h
        · exact ⟨y :: p, .head _, h ▸ .head _⟩
        · obtain ⟨a, h1, h2⟩ := mem_splitC hx h
          rw [hs] at h1
          rcases List.mem_cons.1 h1 with rfl | h1
          · exact ⟨y :: a, .head _, .tail _ h2⟩
          · exact ⟨a, .tail _ h1, h2⟩
theorem no_all {p : UInt8 → Bool} {s : Bs} {x : UInt8} (hp : p x = false) (h : allB p s = true) : x ∉ s := by
  intro hx
  simp only [allB, Bool.and_eq_true, List.all_eq_true] at h
  rw [h.1 x hx] at hp
  cases hp
theorem no10_local {s : Bs} (h : localB s = true) : (10 : UInt8) ∉ s := by
  intro hx
  obtain ⟨a, h1, h2⟩ := mem_splitC (c := 46) (by decide) hx
  simp only [localB, Bool.and_eq_true, Bool.not_eq_true', any_false_iff] at h
  have := h.2 a h1
  exact no_all (p := atomB) (by decide +kernel) (by simpa using this) h2
theorem no10_domain {s : Bs} (h : domainB s = true) : (10 : UInt8) ∉ s := by
  intro hx
  obtain ⟨a, h1, h2⟩ := mem_splitC (c := 46) (by decide) hx
  simp only [domainB, Bool.and_eq_true, Bool.not_eq_true', any_false_iff] at h
  have := h.2 a h1
  simp only [Bool.not_eq_false', labelB, Bool.and_eq_true] at this
  exact no_all (p := innerB) (by decide +kernel) this.2.1 h2
theorem cut_eq {s : Bs} {c : UInt8} (h : (Lib.cut s [c]).2.2 = true) : s = (Lib.cut s [c]).1 ++ c :: (Lib.cut s [c]).2.1 := by
  by_cases hm : c ∈ s
  · obtain ⟨a, b, rfl, ha⟩ := mem_split hm
    rw [cut_at b ha]
  · rw [cut_miss hm] at h; cases h
theorem no10_mbox {s : Bs} (h : mboxB s = true) : (10 : UInt8) ∉ s := by
  simp only [mboxB, Bool.and_eq_true] at h
  have h1 := h.1
  unfold canonM at h1
  split at h1
  · rename_i hs
    unfold splitM at hs
    split at hs
    · rename_i hc
      simp only [Bool.and_eq_true] at hc
      rw [cut_eq hc.1]
      intro hx
      rcases List.mem_append.1 hx with hx | hx
      · exact no10_local hc.2.1 hx
      · rcases List.mem_cons.1 hx with hx | hx
        · cases hx
        · exact no10_domain hc.2.2 hx
    · cases hs
  · cases h1
theorem no10_line {s : Bs} (h : okB s = true) : (10 : UInt8) ∉ s := by
  intro hx
  rw [okB_eq, List.contains_iff_mem.2 hx] at h
  simp at h
theorem no10_marks {l : List Int} (h : ∀ n ∈ l, 0 ≤ n ∧ n ≤ 2) : (10 : UInt8) ∉ mkT l := by
  intro hx
  unfold mkT at hx
  obtain ⟨a, h1, h2⟩ := List.mem_flatten.1 hx
  obtain ⟨n, h3, rfl⟩ := List.mem_map.1 h1
  exact no10_itoa (h n h3).1 h2
theorem lineB_cut {k v : Bs} (rest : Bs) (hk : (10 : UInt8) ∉ k) (hv : (10 : UInt8) ∉ v) : Lib.cut (lineB k v ++ rest) [10] = (k ++ [32] ++ v, rest, true) := by
  have : lineB k v ++ rest = (k ++ [32] ++ v) ++ 10 :: rest := by simp [lineB]
  rw [this]
  refine cut_at rest ?_
  simp [hk, hv]
theorem pre_self (p v : Bs) : Lib.hasPrefix (p ++ v) p = true := by
  show p.isPrefixOf (p ++ v) = true
  exact List.isPrefixOf_iff_prefix.2 ⟨v, rfl⟩
/-! ### The reader -/
abbrev erd (b : Nat) (s : Bs) : SProp := blk b [str s, bol false] 71
theorem spec_erline (w0 : World) (hG : Gl w0) (b : Nat) (l rest : Bs) (fr : List SProp) (hn : (10 : UInt8) ∉ l) (hl : l.length + rest.length < 4294967000) :
    Spec Tryz.prog w0 41 [ptr b] (erd b (l ++ 10 :: rest) :: fr) (fun v cs' => v = str l ∧ cs' = erd b rest :: fr) := by
  have hc := fun cs => spec_scut hG (cs := cs) (l ++ 10 :: rest) [10] (by simp; omega)
  rw [cut_at rest hn] at hc
  refine Spec.of_body Tryz.func41 rfl Tryz.ntmps41 rfl ?_
  refine H.seq ?_
  refine H.region ?_
  refine Ops.quiet (Qt.assign rfl) rfl ?_
  refine Ops.nil ?_
  refine H.then_normal ?_
  refine H.seq ?_
  refine H.region ?_
  refine Ops.quiet (Qt.move rfl) rfl ?_
  refine Ops.quiet (Qt.nilCheck rfl) rfl ?_
  refine Ops.quiet (Qt.fieldAddr rfl (tk rfl) rfl) rfl ?_
  refine Ops.quiet (Qt.load rfl (tk rfl) rfl (by repeat (first | exact List.Mem.head _ | apply List.Mem.tail)) (by rfl)) rfl ?_
  refine Ops.eff (Ef.call (fok fab_all rfl Tryz.func63 rfl) rfl (hc _)) rfl ?_
  rintro _ c0 ⟨rfl, h0⟩; subst c0
  refine Ops.quiet (Qt.move rfl) rfl ?_
  refine Ops.quiet (Qt.extract rfl rfl) rfl ?_
  refine Ops.quiet (Qt.extract rfl rfl) rfl ?_
  refine Ops.quiet (Qt.extract rfl rfl) rfl ?_
  refine Ops.quiet (Qt.assign rfl) rfl ?_
  refine Ops.quiet (Qt.assign rfl) rfl ?_
  refine Ops.quiet (Qt.assign rfl) rfl ?_
  refine Ops.nil ?_
  refine H.then_normal ?_
  refine H.seq ?_
  refine H.region ?_
  refine Ops.quiet (Qt.move rfl) rfl ?_
  refine Ops.quiet (Qt.move rfl) rfl ?_
  refine Ops.quiet (Qt.nilCheck rfl) rfl ?_
  refine Ops.quiet (Qt.fieldAddr rfl (tk rfl) rfl) rfl ?_
  refine Ops.eff (Ef.store rfl rfl (tk rfl) rfl rfl (by repeat (first | exact ones_nil | refine ones_cons rfl ?_)) (by repeat (first | exact Upd.head | apply Upd.tail)) (by rfl)) rfl ?_
  rintro _ _ rfl
  refine Ops.nil ?_
  refine H.then_normal ?_
  refine H.seq ?_
  refine H.region ?_
  refine Ops.quiet (Qt.move rfl) rfl ?_
  refine Ops.quiet (Qt.move rfl) rfl ?_
  refine Ops.quiet (Qt.nilCheck rfl) rfl ?_
  refine Ops.quiet (Qt.fieldAddr rfl (tk rfl) rfl) rfl ?_
  refine Ops.quiet (Qt.load rfl (tk rfl) rfl (by repeat (first | exact List.Mem.head _ | apply List.Mem.tail)) (by rfl)) rfl ?_
  refine Ops.quiet (Qt.move rfl) rfl ?_
  refine Ops.guard_yes rfl rfl rfl rfl rfl ?_
  refine Ops.quiet (Qt.move rfl) rfl ?_
  refine Ops.guard_yes rfl rfl rfl rfl rfl ?_
  refine Ops.quiet (Qt.not rfl) rfl ?_
  refine Ops.quiet (Qt.pick_f rfl rfl rfl) rfl ?_
  refine Ops.quiet (Qt.nilCheck rfl) rfl ?_
  refine Ops.quiet (Qt.fieldAddr rfl (tk rfl) rfl) rfl ?_
  refine Ops.eff (Ef.store rfl rfl (tk rfl) rfl rfl (by repeat (first | exact ones_nil | refine ones_cons rfl ?_)) (by repeat (first | exact Upd.head | apply Upd.tail)) (by rfl)) rfl ?_
  rintro _ _ rfl
  refine Ops.nil ?_
  refine H.then_normal ?_
  refine H.seq ?_
  refine H.region ?_
  refine Ops.quiet (Qt.move rfl) rfl ?_
  refine Ops.quiet (Qt.assign rfl) rfl ?_
  refine Ops.nil ?_
  refine H.then_normal ?_
  refine H.ret ?_
  refine (H.ends rfl (.cons (.tmp rfl) .nil) ?_)
  exact ⟨rfl, rfl⟩
theorem spec_ervalue (w0 : World) (hG : Gl w0) (b : Nat) (k v rest : Bs) (fr : List SProp) (hk : (10 : UInt8) ∉ k) (hv : (10 : UInt8) ∉ v) (hl : k.length + v.length + rest.length < 4294960000) :
    Spec Tryz.prog w0 38 [ptr b, str k] (erd b (lineB k v ++ rest) :: fr) (fun u cs' => u = str v ∧ cs' = erd b rest :: fr) := by
  have e1 : lineB k v ++ rest = (k ++ [32] ++ v) ++ 10 :: rest := by simp [lineB]
  have h1 : (10 : UInt8) ∉ k ++ [32] ++ v := by simp [hk, hv]
  have hpre : Lib.hasPrefix (k ++ [32] ++ v) (k ++ [32]) = true := pre_self _ _
  have hc := fun cs => spec_cutprefix (w0 := w0) (cs := cs) (k ++ [32] ++ v) (k ++ [32])
  have hcp : cutPre (k ++ [32] ++ v) (k ++ [32]) = v := by rw [cutPre, if_pos hpre]; simp
  rw [hpre, hcp] at hc
  rw [e1]
  refine Spec.of_body Tryz.func38 rfl Tryz.ntmps38 rfl ?_
  refine H.seq ?_
  refine H.region ?_
  refine Ops.quiet (Qt.assign rfl) rfl ?_
  refine Ops.nil ?_
  refine H.then_normal ?_
  refine H.seq ?_
  refine H.region ?_
  refine Ops.quiet (Qt.move rfl) rfl ?_
  refine Ops.eff (Ef.call (fok fab_all rfl Tryz.func41 rfl) rfl (spec_erline w0 hG b _ rest fr h1 (by simp; omega))) rfl ?_
  rintro _ c0 ⟨rfl, h0⟩; subst c0
  refine Ops.quiet (Qt.move rfl) rfl ?_
  refine Ops.quiet (Qt.cat rfl rfl (by (try simp only [List.length_append, List.length_cons, List.length_nil]); omega)) rfl ?_
  refine Ops.eff (Ef.call (fok fab_all rfl Tryz.func61 rfl) rfl (hc _)) rfl ?_
  rintro _ c0 ⟨rfl, h0⟩; subst c0
  refine Ops.quiet (Qt.move rfl) rfl ?_
  refine Ops.quiet (Qt.extract rfl rfl) rfl ?_
  refine Ops.quiet (Qt.extract rfl rfl) rfl ?_
  refine Ops.quiet (Qt.assign rfl) rfl ?_
  refine Ops.quiet (Qt.assign rfl) rfl ?_
  refine Ops.nil ?_
  refine H.then_normal ?_
  refine H.seq ?_
  refine H.region ?_
  refine Ops.quiet (Qt.move rfl) rfl ?_
  refine Ops.quiet (Qt.move rfl) rfl ?_
  refine Ops.quiet (Qt.nilCheck rfl) rfl ?_
  refine Ops.quiet (Qt.fieldAddr rfl (tk rfl) rfl) rfl ?_
  refine Ops.quiet (Qt.load rfl (tk rfl) rfl (by repeat (first | exact List.Mem.head _ | apply List.Mem.tail)) (by rfl)) rfl ?_
  refine Ops.quiet (Qt.move rfl) rfl ?_
  refine Ops.guard_yes rfl rfl rfl rfl rfl ?_
  refine Ops.quiet (Qt.move rfl) rfl ?_
  refine Ops.guard_yes rfl rfl rfl rfl rfl ?_
  refine Ops.quiet (Qt.not rfl) rfl ?_
  refine Ops.quiet (Qt.pick_f rfl rfl rfl) rfl ?_
  refine Ops.quiet (Qt.nilCheck rfl) rfl ?_
  refine Ops.quiet (Qt.fieldAddr rfl (tk rfl) rfl) rfl ?_
  refine Ops.eff (Ef.store rfl rfl (tk rfl) rfl rfl (by repeat (first | exact ones_nil | refine ones_cons rfl ?_)) (by repeat (first | exact Upd.head | apply Upd.tail)) (by rfl)) rfl ?_
  rintro _ _ rfl
  refine Ops.nil ?_
  refine H.then_normal ?_
  refine H.seq ?_
  refine H.region ?_
  refine Ops.quiet (Qt.move rfl) rfl ?_
  refine Ops.quiet (Qt.assign rfl) rfl ?_
  refine Ops.nil ?_
  refine H.then_normal ?_
  refine H.ret ?_
  refine (H.ends rfl (.cons (.tmp rfl) .nil) ?_)
  exact ⟨rfl, rfl⟩
theorem spec_ernum (w0 : World) (hG : Gp w0) (b : Nat) (k rest : Bs) (n : Int) (fr : List SProp) (hk : (10 : UInt8) ∉ k) (h0 : 0 ≤ n) (h1 : n ≤ 1099511627776) (hl : k.length + rest.length < 4294950000) :
    Spec Tryz.prog w0 37 [ptr b, str k] (erd b (lineB k (Lib.itoa n) ++ rest) :: fr) (fun u cs' => u = num n ∧ cs' = erd b rest :: fr) := by
  have hil := itoa_len (n := n) (by omega) (by omega)
  refine Spec.of_body Tryz.func37 rfl Tryz.ntmps37 rfl ?_
  refine H.seq ?_
  refine H.region ?_
  refine Ops.quiet (Qt.assign rfl) rfl ?_
  refine Ops.nil ?_
  refine H.then_normal ?_
  refine H.seq ?_
  refine H.region ?_
  refine Ops.quiet (Qt.move rfl) rfl ?_
  refine Ops.quiet (Qt.move rfl) rfl ?_
  refine Ops.eff (Ef.call (fok fab_all rfl Tryz.func38 rfl) rfl (spec_ervalue w0 hG.gl b k (Lib.itoa n) rest fr hk (no10_itoa h0) (by omega))) rfl ?_
  rintro _ c0 ⟨rfl, h0⟩; subst c0
  refine Ops.quiet (Qt.assign rfl) rfl ?_
  refine Ops.nil ?_
  refine H.then_normal ?_
  refine H.seq ?_
  refine H.region ?_
  refine Ops.quiet (Qt.move rfl) rfl ?_
  refine Ops.eff (Ef.call (fok fab_all rfl Tryz.func60 rfl) rfl (spec_atoi (atoi_itoa h0 (by omega)) (by omega))) rfl ?_
  rintro _ c0 ⟨rfl, h0⟩; subst c0
  refine Ops.quiet (Qt.move rfl) rfl ?_
  refine Ops.quiet (Qt.extract rfl rfl) rfl ?_
  refine Ops.quiet (Qt.extract rfl rfl) rfl ?_
  refine Ops.quiet (Qt.assign rfl) rfl ?_
  refine Ops.quiet (Qt.assign rfl) rfl ?_
  refine Ops.nil ?_
  refine H.then_normal ?_
  refine H.seq ?_
  refine H.region ?_
  refine Ops.quiet (Qt.move rfl) rfl ?_
  refine Ops.quiet (Qt.move rfl) rfl ?_
  refine Ops.quiet (Qt.nilCheck rfl) rfl ?_
  refine Ops.quiet (Qt.fieldAddr rfl (tk rfl) rfl) rfl ?_
  refine Ops.quiet (Qt.load rfl (tk rfl) rfl (by repeat (first | exact List.Mem.head _ | apply List.Mem.tail)) (by rfl)) rfl ?_
  refine Ops.quiet (Qt.move rfl) rfl ?_
  refine Ops.guard_yes rfl rfl rfl rfl rfl ?_
  refine Ops.quiet (Qt.move rfl) rfl ?_
  refine Ops.guard_yes rfl rfl rfl rfl rfl ?_
  first | (refine Ops.quiet (Qt.if_ne_nil0 rfl (tk rfl)) rfl ?_) | (refine Ops.quiet (Qt.if_ne_nil1 rfl (tk rfl)) rfl ?_)
  refine Ops.quiet (Qt.pick_f rfl rfl rfl) rfl ?_
  refine Ops.quiet (Qt.move rfl) rfl ?_
  refine Ops.guard_yes rfl rfl rfl rfl rfl ?_
  refine Ops.quiet (Qt.move rfl) rfl ?_
  refine Ops.guard_yes rfl rfl rfl rfl rfl ?_
  refine Ops.eff (Ef.call (fok fab_all rfl Tryz.func30 rfl) rfl (spec_itoa hG n (by omega) (by omega))) rfl ?_
  rintro _ c0 ⟨rfl, h0⟩; subst c0
  refine Ops.guard_yes rfl rfl rfl rfl rfl ?_
  refine Ops.quiet (Qt.move rfl) rfl ?_
  refine Ops.guard_yes rfl rfl rfl rfl rfl ?_
  refine Ops.quiet (Qt.sne rfl rfl) rfl ?_
  refine Ops.quiet (Qt.pick_f rfl rfl rfl) rfl ?_
  refine Ops.quiet (Qt.nilCheck rfl) rfl ?_
  refine Ops.quiet (Qt.fieldAddr rfl (tk rfl) rfl) rfl ?_
  refine Ops.eff (Ef.store rfl rfl (tk rfl) rfl rfl (by repeat (first | exact ones_nil | refine ones_cons rfl ?_)) (by repeat (first | exact Upd.head | apply Upd.tail)) (by rfl)) rfl ?_
  rintro _ _ rfl
  refine Ops.nil ?_
  refine H.then_normal ?_
  refine H.seq ?_
  refine H.region ?_
  refine Ops.quiet (Qt.move rfl) rfl ?_
  refine Ops.quiet (Qt.assign rfl) rfl ?_
  refine Ops.nil ?_
  refine H.then_normal ?_
  refine H.ret ?_
  have e : (!(Lib.itoa n == Lib.itoa n)) = false := by simp
  refine (H.ends_to (cs' := erd b rest :: fr) rfl (.cons (.tmp rfl) .nil) (fun w hw => ?_) ?_)
  · rw [e] at hw
    exact hw
  · exact ⟨rfl, rfl⟩
def mkC (n : Int) : UInt8 := UInt8.ofNat (48 + n.toNat)
theorem mkT_eq {l : List Int} (h : ∀ n ∈ l, 0 ≤ n ∧ n ≤ 2) : mkT l = l.map mkC := by
  induction l with
  | nil => rfl
  | cons x l ih =>
    have h1 := h x (.head _)
    have h2 : mkT (x :: l) = Lib.itoa x ++ mkT l := by simp [mkT]
    have hn : ¬ x < 0 := by omega
    have h3 : Lib.itoa x = [mkC x] := by
      rw [Lib.itoa, if_neg hn, Lib.decDigits, dif_pos (by omega)]
      rfl
    rw [h2, h3, ih fun n hn => h n (.tail _ hn)]
    rfl
theorem mkC_nat {n : Int} (h : 0 ≤ n ∧ n ≤ 2) : ((mkC n).toNat : Int) = 48 + n := by
  simp only [mkC, UInt8.toNat_ofNat']; omega
theorem spec_ermarks (w0 : World) (hG : Gl w0) (b : Nat) (l : List Int) (rest : Bs) (fr : List SProp) (hm : ∀ n ∈ l, 0 ≤ n ∧ n ≤ 2) (hl : l.length ≤ 1000000) (hr : rest.length < 4200000000) :
    Spec Tryz.prog w0 40 [ptr b] (erd b (lineB kMarks (mkT l) ++ rest) :: fr) (fun u cs' => ∃ A c, u = .slice A l.length c ∧ cs' = osl 3 A l.length c (l.map num) :: erd b rest :: fr) := by
  have hme := mkT_eq hm
  have hml : (mkT l).length = l.length := by rw [hme, List.length_map]
  have hn10 := no10_marks hm
  refine Spec.of_body Tryz.func40 rfl Tryz.ntmps40 rfl ?_
  refine H.seq ?_
  refine H.region ?_
  refine Ops.quiet (Qt.assign rfl) rfl ?_
  refine Ops.nil ?_
  refine H.then_normal ?_
  refine H.seq ?_
  refine H.region ?_
  refine Ops.quiet (Qt.assign rfl) rfl ?_
  refine Ops.nil ?_
  refine H.then_normal ?_
  refine H.seq ?_
  refine H.seq ?_
  refine H.region ?_
  refine Ops.quiet (Qt.move rfl) rfl ?_
  refine Ops.eff (Ef.call (fok fab_all rfl Tryz.func38 rfl) rfl (spec_ervalue w0 hG b kMarks (mkT l) rest fr (by decide) hn10 (by simp only [List.length_cons, List.length_nil]; omega))) rfl ?_
  rintro _ c0 ⟨rfl, h0⟩; subst c0
  refine Ops.eff (Ef.str_bytes rfl (tk rfl) (tk rfl) (tk rfl) (by omega)) rfl ?_
  rintro _ _ ⟨A8, c8, rfl, rfl⟩
  refine Ops.quiet (Qt.len_sl (ats := #[]) rfl (tk rfl)) rfl ?_
  refine Ops.quiet (Qt.move rfl) rfl ?_
  refine Ops.nil ?_
  refine H.then_normal ?_
  refine H.block ?_
  refine H.loop (X := Nat × Option Addr × Nat) (fun p => [(3, .slice p.2.1 p.1 p.2.2), (8, .slice A8 (mkT l).length c8), (9, num (mkT l).length), (10, num p.1)]) (fun p => osl 3 p.2.1 p.1 p.2.2 ((l.take p.1).map num) :: osl 5 A8 (mkT l).length c8 ((mkT l).map u8v) :: erd b rest :: fr) (fun p => p.1 ≤ l.length) (fun p => l.length - p.1) (0, none, 0) (Nat.zero_le _) (by repeat (first | exact trivial | refine ⟨rfl, ?_⟩)) (fun w hw => Own.nil_osl _ hw) ?_
  rintro ⟨i, A, c⟩ hi
  simp only at hi
  change H _ _ [(3, .slice A i c), (8, .slice A8 (mkT l).length c8), (9, num (mkT l).length), (10, num (i : Int))] (osl 3 A i c ((l.take i).map num) :: osl 5 A8 (mkT l).length c8 ((mkT l).map u8v) :: erd b rest :: fr) _
  refine H.seq ?_
  refine H.region ?_
  refine Ops.quiet (Qt.lss rfl rfl) rfl ?_
  refine Ops.nil ?_
  refine H.then_normal ?_
  refine H.seq ?_
  refine H.cond rfl (fun h11 => ?_) (fun h11 => ?_)
  · try simp only [decide_eq_true_eq, decide_eq_false_iff_not, beq_iff_eq, beq_eq_false_iff_ne, bne_iff_ne, ne_eq, Bool.not_eq_true', Bool.not_eq_false', bne_eq_false_iff_eq, Bool.not_eq_eq_eq_not, Bool.not_true, Bool.not_false] at h11
    refine H.skip ?_
    refine H.then_normal ?_
    refine H.seq ?_
    refine H.block ?_
    refine H.seq ?_
    have hi2 : i < l.length := by omega
    have hi3 : (i : Int).toNat < (mkT l).length := by omega
    have hx := hm _ (getD_mem 0 hi2)
    have hv : (((mkT l).getD (i : Int).toNat 0).toNat : Int) = 48 + l.getD i 0 := by
      rw [← mkC_nat hx, hme]
      show (((l.map mkC).getD i 0).toNat : Int) = _
      simp [List.getD_eq_getElem?_getD, hi2]
    refine H.region ?_
    refine Ops.quiet (Qt.indexAddr rfl rfl (tk rfl) (tk rfl) rfl (osl_reads (.tail _ (.head _))) (by omega) (by omega)) rfl ?_
    refine Ops.quiet (Qt.load_map (0 : UInt8) rfl (tk rfl) rfl (osl_reads (.tail _ (.head _))) (by exact hi3)) rfl ?_
    refine Ops.quiet (Qt.assign rfl) rfl ?_
    refine Ops.nil ?_
    refine H.then_normal ?_
    refine H.region ?_
    refine Ops.quiet (Qt.move rfl) rfl ?_
    refine Ops.quiet (Qt.move rfl) rfl ?_
    refine Ops.quiet (Qt.cast (Qt.conv_k rfl (tk rfl) (tk rfl) (by first | exact IntWalk.i64_in _ (by omega) | exact IntWalk.u8_in _ (by omega) | exact IntWalk.u64_in _ (by omega) | exact IntWalk.u32_in _ (by omega) | exact IntWalk.u16_in _ (by omega))) (show _ = num (48 + l.getD i 0) by rw [hv])) rfl ?_
    refine Ops.quiet (Qt.cast (Qt.subk rfl rfl (by first | exact IntWalk.i64_in _ (by omega) | exact IntWalk.u8_in _ (by omega) | exact IntWalk.u64_in _ (by omega) | exact IntWalk.u32_in _ (by omega) | exact IntWalk.u16_in _ (by omega))) (show _ = num (l.getD i 0) by congr 1; omega)) rfl ?_
    refine Ops.eff (Ef.buildSlice (tk rfl) (tk rfl) rfl (zk rfl) rfl rfl rfl (by repeat (first | exact ones_nil | refine ones_cons rfl ?_))) rfl ?_
    rintro _ _ ⟨A18, c18, rfl, rfl⟩
    refine Ops.eff (Ef.append1 (f := num) (l := l.take i) (b := l.getD i 0) rfl rfl (tk rfl) (tk rfl) rfl (zk rfl) (by repeat (first | assumption | exact Reads.of_head | apply Reads.tail)) (by intro _ _; repeat (first | exact Upd.head | apply Upd.tail)) (fun _ => rfl) (by dsimp only; omega) (by simp only [maxLen]; omega)) rfl ?_
    rintro _ _ ⟨A19, c19, rfl, rfl⟩
    refine Ops.quiet (Qt.assign rfl) rfl ?_
    refine Ops.nil ?_
    refine H.blk_normal ?_
    refine H.then_normal ?_
    refine H.region ?_
    refine Ops.quiet (Qt.addk rfl rfl (by first | exact IntWalk.i64_in _ (by omega) | exact IntWalk.u8_in _ (by omega) | exact IntWalk.u64_in _ (by omega) | exact IntWalk.u32_in _ (by omega) | exact IntWalk.u16_in _ (by omega))) rfl ?_
    refine Ops.quiet (Qt.move rfl) rfl ?_
    refine Ops.nil ?_
    refine H.then_normal ?_
    refine H.round (i + 1, A19, c19) (by show i + 1 ≤ l.length; omega) (by simp only []; omega) (by repeat (first | exact trivial | refine ⟨rfl, ?_⟩)) (fun w hw => ?_)
    have e : l.take (i + 1) = l.take i ++ [l.getD i 0] := by rw [List.take_succ_eq_append_getElem hi2]; simp [List.getD_eq_getElem?_getD, hi2]
    show Own w0 w (osl 3 A19 (i + 1) c19 ((l.take (i + 1)).map num) :: osl 5 A8 (mkT l).length c8 ((mkT l).map u8v) :: erd b rest :: fr)
    rw [e]
    exact hw.tail
  · try simp only [decide_eq_true_eq, decide_eq_false_iff_not, beq_iff_eq, beq_eq_false_iff_ne, bne_iff_ne, ne_eq, Bool.not_eq_true', Bool.not_eq_false', bne_eq_false_iff_eq, Bool.not_eq_eq_eq_not, Bool.not_true, Bool.not_false] at h11
    refine H.exit ?_
    refine H.then_exit ?_
    refine H.then_exit ?_
    refine H.blk_hit ?_
    refine H.then_normal ?_
    refine H.seq ?_
    refine H.region ?_
    refine Ops.quiet (Qt.move rfl) rfl ?_
    refine Ops.quiet (Qt.assign rfl) rfl ?_
    refine Ops.nil ?_
    refine H.then_normal ?_
    refine H.ret ?_
    obtain rfl : i = l.length := by omega
    rw [List.take_length]
    refine (H.ends_to (cs' := osl 3 A l.length c (l.map num) :: erd b rest :: fr) rfl (.cons (.tmp rfl) .nil) (fun w hw => ?_) ?_)
    · exact hw.sub (by repeat (first | exact List.Sublist.refl _ | exact List.nil_sublist _ | apply List.Sublist.cons_cons | apply List.Sublist.cons))
    · exact ⟨A, c, rfl, rfl⟩
theorem rcT_drop {l : List Bs} {i : Nat} (h : i < l.length) : rcT (l.drop i) = lineB kRcpt (l.getD i []) ++ rcT (l.drop (i + 1)) := by
  have hg : l[i] = l.getD i [] := by simp [List.getD_eq_getElem?_getD, h]
  unfold rcT
  rw [List.drop_eq_getElem_cons h, List.map_cons, List.flatten_cons, hg]
theorem bdT_drop {l : List Bs} {i : Nat} (h : i < l.length) : bdT (l.drop i) = l.getD i [] ++ 10 :: bdT (l.drop (i + 1)) := by
  have hg : l[i] = l.getD i [] := by simp [List.getD_eq_getElem?_getD, h]
  unfold bdT
  rw [List.drop_eq_getElem_cons h, List.map_cons, List.flatten_cons, hg, List.append_assoc]
  rfl
theorem take_snoc {α : Type} {l : List α} {i : Nat} (d : α) (h : i < l.length) : l.take (i + 1) = l.take i ++ [l.getD i d] := by
  rw [List.take_succ_eq_append_getElem h]; simp [List.getD_eq_getElem?_getD, h]
theorem spec_edecode (w0 : World) (hG : Gp w0) (m : Mg) (hb : MB m) (hg : GoodM m) {A : Option Addr} {n c : Nat} (cs : List SProp) (hr : Reads w0 cs A n c ((textM m).map u8v)) :
    Spec Tryz.prog w0 20 [.slice A n c] cs (fun v cs' => ∃ a : Ma, v = .tuple #[m.v a, num 0] ∧ cs' = osl 9 a.r.A a.r.n a.r.c (m.rcpts.map str) :: osl 3 a.m.A a.m.n a.m.c (m.marks.map num) :: osl 9 a.b.A a.b.n a.b.c (m.body.map str) :: cs) := by
  obtain ⟨t1, t2, t3, t4⟩ := hg.tb hb
  have n1 := hg.nums m.id (by simp [Mg.nums])
  have n2 := hg.nums m.gen (by simp [Mg.nums])
  have n3 := hg.nums m.born (by simp [Mg.nums])
  have n4 := hg.nums m.tries (by simp [Mg.nums])
  have n5 := hg.nums m.due (by simp [Mg.nums])
  have hfr : (10 : UInt8) ∉ m.frm := by
    rcases hg.frm with h | h
    · rw [h]; simp
    · exact no10_mbox h
  have a6 := hb.f
  have hr1 := hg.r1
  have hm1 := hg.m1
  have hbl := goodB_len hg.bd
  have e0 : textM m = lineB kId (Lib.itoa m.id) ++ (lineB kGen (Lib.itoa m.gen) ++ (lineB kBorn (Lib.itoa m.born) ++ (lineB kTries (Lib.itoa m.tries) ++ (lineB kDue (Lib.itoa m.due) ++ (lineB kFrom m.frm ++ (rcT m.rcpts ++ (lineB kMarks (mkT m.marks) ++ (10 :: bdT m.body)))))))) := by simp [textM, headT]
  have a1 := itoa_len (n := m.id) (by omega) (by omega)
  have a2 := itoa_len (n := m.gen) (by omega) (by omega)
  have a3 := itoa_len (n := m.born) (by omega) (by omega)
  have a4 := itoa_len (n := m.tries) (by omega) (by omega)
  have a5 := itoa_len (n := m.due) (by omega) (by omega)
  refine Spec.of_body Tryz.func20 rfl Tryz.ntmps20 rfl ?_
  refine H.seq ?_
  refine H.region ?_
  refine Ops.eff (Ef.alloc (zk rfl)) rfl ?_
  rintro _ _ ⟨b2, rfl, rfl⟩
  refine Ops.quiet (Qt.assign rfl) rfl ?_
  refine Ops.nil ?_
  refine H.then_normal ?_
  refine H.seq ?_
  refine H.region ?_
  refine Ops.quiet (Qt.move rfl) rfl ?_
  refine Ops.quiet (Qt.bytes_str rfl (tk rfl) (tk rfl) (tk rfl) (by repeat (first | assumption | exact Reads.of_head | apply Reads.tail))) rfl ?_
  refine Ops.quiet (Qt.build (tk rfl) (zk rfl) rfl (by rfl)) rfl ?_
  refine Ops.eff (Ef.box rfl rfl) rfl ?_
  rintro _ _ ⟨b10, rfl, rfl⟩
  refine Ops.quiet (Qt.assign rfl) rfl ?_
  refine Ops.nil ?_
  refine H.then_normal ?_
  refine H.seq ?_
  rw [e0]
  refine H.region ?_
  refine Ops.quiet (Qt.move rfl) rfl ?_
  refine Ops.eff (Ef.call (fok fab_all rfl Tryz.func37 rfl) rfl (spec_ernum w0 hG b10 kId _ m.id _ (by decide) (by omega) (by omega) (by simp only [List.length_append, lineB_len, List.length_cons, List.length_nil]; omega))) rfl ?_
  rintro _ c0 ⟨rfl, h0⟩; subst c0
  refine Ops.quiet (Qt.move rfl) rfl ?_
  refine Ops.eff (Ef.call (fok fab_all rfl Tryz.func37 rfl) rfl (spec_ernum w0 hG b10 kGen _ m.gen _ (by decide) (by omega) (by omega) (by simp only [List.length_append, lineB_len, List.length_cons, List.length_nil]; omega))) rfl ?_
  rintro _ c0 ⟨rfl, h0⟩; subst c0
  refine Ops.quiet (Qt.move rfl) rfl ?_
  refine Ops.eff (Ef.call (fok fab_all rfl Tryz.func37 rfl) rfl (spec_ernum w0 hG b10 kBorn _ m.born _ (by decide) (by omega) (by omega) (by simp only [List.length_append, lineB_len, List.length_cons, List.length_nil]; omega))) rfl ?_
  rintro _ c0 ⟨rfl, h0⟩; subst c0
  refine Ops.quiet (Qt.move rfl) rfl ?_
  refine Ops.eff (Ef.call (fok fab_all rfl Tryz.func37 rfl) rfl (spec_ernum w0 hG b10 kTries _ m.tries _ (by decide) (by omega) (by omega) (by simp only [List.length_append, lineB_len, List.length_cons, List.length_nil]; omega))) rfl ?_
  rintro _ c0 ⟨rfl, h0⟩; subst c0
  refine Ops.quiet (Qt.move rfl) rfl ?_
  refine Ops.eff (Ef.call (fok fab_all rfl Tryz.func37 rfl) rfl (spec_ernum w0 hG b10 kDue _ m.due _ (by decide) (by omega) (by omega) (by simp only [List.length_append, lineB_len, List.length_cons, List.length_nil]; omega))) rfl ?_
  rintro _ c0 ⟨rfl, h0⟩; subst c0
  refine Ops.quiet (Qt.move rfl) rfl ?_
  refine Ops.eff (Ef.call (fok fab_all rfl Tryz.func38 rfl) rfl (spec_ervalue w0 hG.gl b10 kFrom m.frm _ _ (by decide) hfr (by simp only [List.length_append, lineB_len, List.length_cons, List.length_nil]; omega))) rfl ?_
  rintro _ c0 ⟨rfl, h0⟩; subst c0
  refine Ops.quiet (Qt.build (tk rfl) (zk rfl) rfl (by rfl)) rfl ?_
  refine Ops.eff (Ef.alloc (zk rfl)) rfl ?_
  rintro _ _ ⟨b5, rfl, rfl⟩
  refine Ops.eff (Ef.store rfl rfl (tk rfl) rfl rfl (by repeat (first | exact ones_nil | refine ones_cons rfl ?_)) (by repeat (first | exact Upd.head | apply Upd.tail)) (by rfl)) rfl ?_
  rintro _ _ rfl
  refine Ops.nil ?_
  refine H.then_normal ?_
  refine H.seq ?_
  refine H.block ?_
  obtain ⟨tl, htl⟩ : ∃ tl, tl = lineB kMarks (mkT m.marks) ++ (10 :: bdT m.body) := ⟨_, rfl⟩
  have htll : tl.length ≤ 100000 := by rw [htl]; simp only [List.length_append, lineB_len, List.length_cons, List.length_nil]; omega
  rw [← htl]
  refine H.loop (X := Nat × Option Addr × Nat) (fun p => [(2, ptr b2), (3, num 0), (4, ptr b10), (5, ptr b5)]) (fun p => osl 9 p.2.1 p.1 p.2.2 ((m.rcpts.take p.1).map str) :: erd b10 (rcT (m.rcpts.drop p.1) ++ tl) :: blk b5 [num m.id, num m.gen, num m.born, num m.tries, num m.due, str m.frm, .slice p.2.1 p.1 p.2.2, .slice none 0 0, .slice none 0 0] 25 :: blk b2 [num 0, num 0, num 0, num 0, num 0, str [], .slice none 0 0, .slice none 0 0, .slice none 0 0] 25 :: cs) (fun p => p.1 ≤ m.rcpts.length) (fun p => m.rcpts.length - p.1) (0, none, 0) (Nat.zero_le _) (by repeat (first | exact trivial | refine ⟨rfl, ?_⟩)) (fun w hw => by
    have h1 : Own w0 w (blk b5 [num m.id, num m.gen, num m.born, num m.tries, num m.due, str m.frm, .slice none 0 0, .slice none 0 0, .slice none 0 0] 25 :: erd b10 (rcT (m.rcpts.drop 0) ++ tl) :: blk b2 [num 0, num 0, num 0, num 0, num 0, str [], .slice none 0 0, .slice none 0 0, .slice none 0 0] 25 :: cs) := hw
    exact Own.nil_osl _ (h1.perm (.swap _ _ _))) ?_
  rintro ⟨i, A1, c1⟩ hi
  simp only at hi
  change H _ _ [(2, ptr b2), (3, num 0), (4, ptr b10), (5, ptr b5)] (osl 9 A1 i c1 ((m.rcpts.take i).map str) :: erd b10 (rcT (m.rcpts.drop i) ++ tl) :: blk b5 [num m.id, num m.gen, num m.born, num m.tries, num m.due, str m.frm, .slice A1 i c1, .slice none 0 0, .slice none 0 0] 25 :: blk b2 [num 0, num 0, num 0, num 0, num 0, str [], .slice none 0 0, .slice none 0 0, .slice none 0 0] 25 :: cs) _
  refine H.seq ?_
  refine H.seq ?_
  refine H.region ?_
  refine Ops.quiet (Qt.move rfl) rfl ?_
  refine Ops.quiet (Qt.nilCheck rfl) rfl ?_
  refine Ops.quiet (Qt.fieldAddr rfl (tk rfl) rfl) rfl ?_
  refine Ops.quiet (Qt.load rfl (tk rfl) rfl (by repeat (first | exact List.Mem.head _ | apply List.Mem.tail)) (by rfl)) rfl ?_
  refine Ops.quiet (Qt.not rfl) rfl ?_
  refine Ops.quiet (Qt.move rfl) rfl ?_
  refine Ops.guard_yes rfl rfl rfl rfl rfl ?_
  refine Ops.quiet (Qt.move rfl) rfl ?_
  refine Ops.guard_yes rfl rfl rfl rfl rfl ?_
  refine Ops.quiet (Qt.nilCheck rfl) rfl ?_
  refine Ops.guard_yes rfl rfl rfl rfl rfl ?_
  refine Ops.quiet (Qt.fieldAddr rfl (tk rfl) rfl) rfl ?_
  refine Ops.guard_yes rfl rfl rfl rfl rfl ?_
  refine Ops.quiet (Qt.load rfl (tk rfl) rfl (by repeat (first | exact List.Mem.head _ | apply List.Mem.tail)) (by rfl)) rfl ?_
  refine Ops.guard_yes rfl rfl rfl rfl rfl ?_
  refine Ops.eff (Ef.call (fok fab_all rfl Tryz.func39 rfl) rfl (spec_hasprefix (rcT (m.rcpts.drop i) ++ tl) [114, 99, 112, 116, 32])) rfl ?_
  rintro _ c0 ⟨rfl, h0⟩; subst c0
  refine Ops.quiet (Qt.pick_t rfl rfl rfl) rfl ?_
  refine Ops.nil ?_
  refine H.then_normal ?_
  refine H.cond rfl (fun h35 => ?_) (fun h35 => ?_)
  · try simp only [decide_eq_true_eq, decide_eq_false_iff_not, beq_iff_eq, beq_eq_false_iff_ne, bne_iff_ne, ne_eq, Bool.not_eq_true', Bool.not_eq_false', bne_eq_false_iff_eq, Bool.not_eq_eq_eq_not, Bool.not_true, Bool.not_false] at h35
    refine H.skip ?_
    refine H.then_normal ?_
    refine H.block ?_
    have hi2 : i < m.rcpts.length := by
      rcases Nat.lt_or_ge i m.rcpts.length with h | h
      · exact h
      · rw [List.drop_of_length_le h] at h35
        have : Lib.hasPrefix (rcT [] ++ tl) [114, 99, 112, 116, 32] = false := by rw [htl]; rfl
        rw [this] at h35
        cases h35
    obtain ⟨s, hs⟩ : ∃ s, s = m.rcpts.getD i [] := ⟨_, rfl⟩
    have hsm : s ∈ m.rcpts := hs ▸ getD_mem [] hi2
    have hsl := hb.r s hsm
    have hs10 := no10_mbox (hg.rc s hsm)
    have hdl : (rcT (m.rcpts.drop (i + 1))).length ≤ 20000200 := by
      have h1 := rcT_drop hi2
      have h2 : (rcT m.rcpts).length = (rcT (m.rcpts.take (i + 1))).length + (rcT (m.rcpts.drop (i + 1))).length := by
        rw [← List.length_append, rcT, rcT, rcT, ← List.flatten_append, ← List.map_append, List.take_append_drop]
      omega
    have e : rcT (m.rcpts.drop i) ++ tl = lineB kRcpt s ++ (rcT (m.rcpts.drop (i + 1)) ++ tl) := by rw [rcT_drop hi2, List.append_assoc, hs]
    rw [e]
    refine H.fr1 ?_
    refine H.drawn ([blk b5 [num m.id, num m.gen, num m.born, num m.tries, num m.due, str m.frm, .slice A1 i c1, .slice none 0 0, .slice none 0 0] 25]) 5 mixed (by kernel_rfl) ?_
    refine Hd.quiet 0 (by kernel_rfl) rfl rfl (by kernel_rfl) rfl (Qt.fieldAddr rfl (tk rfl) rfl) ?_
    refine Hd.quiet 1 (by kernel_rfl) rfl rfl (by kernel_rfl) rfl (Qt.load rfl (tk rfl) rfl (by repeat (first | exact List.Mem.head _ | apply List.Mem.tail)) (by rfl)) ?_
    refine Hd.quiet 2 (by kernel_rfl) rfl rfl (by kernel_rfl) rfl (Qt.move rfl) ?_
    refine Hd.eff 3 (by intro w hw; first | exact hw | exact Own.sub (by repeat (first | exact List.Sublist.refl _ | exact List.nil_sublist _ | apply List.Sublist.cons_cons | apply List.Sublist.cons)) hw) rfl rfl (by kernel_rfl) rfl (Ef.call (fok fab_all rfl Tryz.func38 rfl) rfl (spec_ervalue w0 hG.gl b10 kRcpt s _ _ (by decide) hs10 (by simp only [List.length_append, List.length_cons, List.length_nil]; omega))) ?_
    rintro _ c0 ⟨rfl, h0⟩; subst c0
    refine Hd.eff 4 (by intro w hw; first | exact hw | exact Own.sub (by repeat (first | exact List.Sublist.refl _ | exact List.nil_sublist _ | apply List.Sublist.cons_cons | apply List.Sublist.cons)) hw) rfl rfl (by kernel_rfl) rfl (Ef.buildSlice (tk rfl) (tk rfl) rfl (zk rfl) rfl rfl rfl (by repeat (first | exact ones_nil | refine ones_cons rfl ?_))) ?_
    rintro _ _ ⟨A40, c40, rfl, rfl⟩
    refine Hd.tail (by intro w hw; first | exact hw | exact Own.sub (by repeat (first | exact List.Sublist.refl _ | exact List.nil_sublist _ | apply List.Sublist.cons_cons | apply List.Sublist.cons)) hw) (by kernel_rfl) rfl ?_
    refine Ops.eff (Ef.append1 (f := str) (l := m.rcpts.take i) (b := s) rfl rfl (tk rfl) (tk rfl) rfl (zk rfl) (by repeat (first | assumption | exact Reads.of_head | apply Reads.tail)) (by intro _ _; repeat (first | exact Upd.head | apply Upd.tail)) (fun _ => rfl) (by dsimp only; omega) (by simp only [maxLen]; omega)) rfl ?_
    rintro _ _ ⟨A41, c41, rfl, rfl⟩
    refine Ops.quiet (Qt.fieldAddr rfl (tk rfl) rfl) rfl ?_
    refine Ops.eff (Ef.store rfl rfl (tk rfl) rfl rfl (by repeat (first | exact ones_nil | refine ones_cons rfl ?_)) (by repeat (first | exact Upd.head | apply Upd.tail)) (by rfl)) rfl ?_
    rintro _ _ rfl
    refine Ops.nil ?_
    refine H.blk_normal ?_
    refine H.then_normal ?_
    refine H.round (i + 1, A41, c41) (by show i + 1 ≤ m.rcpts.length; omega) (by simp only []; omega) (by repeat (first | exact trivial | refine ⟨rfl, ?_⟩)) (fun w hw => ?_)
    show Own w0 w (osl 9 A41 (i + 1) c41 ((m.rcpts.take (i + 1)).map str) :: erd b10 (rcT (m.rcpts.drop (i + 1)) ++ tl) :: blk b5 [num m.id, num m.gen, num m.born, num m.tries, num m.due, str m.frm, .slice A41 (i + 1) c41, .slice none 0 0, .slice none 0 0] 25 :: blk b2 [num 0, num 0, num 0, num 0, num 0, str [], .slice none 0 0, .slice none 0 0, .slice none 0 0] 25 :: cs)
    rw [take_snoc [] hi2, ← hs]
    exact hw.tail.perm (.swap _ _ _)
  · try simp only [decide_eq_true_eq, decide_eq_false_iff_not, beq_iff_eq, beq_eq_false_iff_ne, bne_iff_ne, ne_eq, Bool.not_eq_true', Bool.not_eq_false', bne_eq_false_iff_eq, Bool.not_eq_eq_eq_not, Bool.not_true, Bool.not_false] at h35
    refine H.exit ?_
    refine H.then_exit ?_
    refine H.then_exit ?_
    refine H.blk_hit ?_
    refine H.then_normal ?_
    refine H.seq ?_
    have hi2 : i = m.rcpts.length := by
      rcases Nat.lt_or_ge i m.rcpts.length with h | h
      · rw [rcT_drop h, List.append_assoc] at h35
        have e2 : lineB kRcpt (m.rcpts.getD i []) ++ (rcT (m.rcpts.drop (i + 1)) ++ tl) = [114, 99, 112, 116, 32] ++ (m.rcpts.getD i [] ++ [10] ++ (rcT (m.rcpts.drop (i + 1)) ++ tl)) := by simp [lineB]
        rw [e2, pre_self] at h35
        cases h35
      · omega
    subst hi2
    have e3 : rcT (m.rcpts.drop m.rcpts.length) ++ tl = lineB kMarks (mkT m.marks) ++ (10 :: bdT m.body) := by rw [List.drop_length, htl]; rfl
    rw [e3, List.take_length]
    refine H.fr1 ?_
    refine H.region ?_
    refine Ops.quiet (Qt.move rfl) rfl ?_
    refine Ops.eff (Ef.call (fok fab_all rfl Tryz.func40 rfl) rfl (spec_ermarks w0 hG.gl b10 m.marks (10 :: bdT m.body) _ hg.mks (by omega) (by simp; omega))) rfl ?_
    rintro _ _ ⟨A44, c44, rfl, rfl⟩
    refine Ops.quiet (Qt.fieldAddr rfl (tk rfl) rfl) rfl ?_
    refine Ops.eff (Ef.store rfl rfl (tk rfl) rfl rfl (by repeat (first | exact ones_nil | refine ones_cons rfl ?_)) (by repeat (first | exact Upd.head | apply Upd.tail)) (by rfl)) rfl ?_
    rintro _ _ rfl
    refine Ops.nil ?_
    refine H.then_normal ?_
    refine H.seq ?_
    refine H.fr1 ?_
    refine H.region ?_
    refine Ops.quiet (Qt.move rfl) rfl ?_
    refine Ops.eff (Ef.call (fok fab_all rfl Tryz.func41 rfl) rfl (spec_erline w0 hG.gl b10 [] (bdT m.body) _ (by simp) (by simp; omega))) rfl ?_
    rintro _ c0 ⟨rfl, h0⟩; subst c0
    refine Ops.quiet (Qt.assign rfl) rfl ?_
    refine Ops.nil ?_
    refine H.then_normal ?_
    refine H.seq ?_
    refine H.region ?_
    refine Ops.quiet (Qt.move rfl) rfl ?_
    refine Ops.quiet (Qt.move rfl) rfl ?_
    refine Ops.quiet (Qt.nilCheck rfl) rfl ?_
    refine Ops.quiet (Qt.fieldAddr rfl (tk rfl) rfl) rfl ?_
    refine Ops.quiet (Qt.load rfl (tk rfl) rfl (by repeat (first | exact List.Mem.head _ | apply List.Mem.tail)) (by rfl)) rfl ?_
    refine Ops.quiet (Qt.move rfl) rfl ?_
    refine Ops.guard_yes rfl rfl rfl rfl rfl ?_
    refine Ops.quiet (Qt.move rfl) rfl ?_
    refine Ops.guard_yes rfl rfl rfl rfl rfl ?_
    refine Ops.quiet (Qt.sne rfl rfl) rfl ?_
    refine Ops.quiet (Qt.pick_f rfl rfl rfl) rfl ?_
    refine Ops.quiet (Qt.nilCheck rfl) rfl ?_
    refine Ops.quiet (Qt.fieldAddr rfl (tk rfl) rfl) rfl ?_
    refine Ops.eff (Ef.store rfl rfl (tk rfl) rfl rfl (by repeat (first | exact ones_nil | refine ones_cons rfl ?_)) (by repeat (first | exact Upd.head | apply Upd.tail)) (by rfl)) rfl ?_
    rintro _ _ rfl
    refine Ops.nil ?_
    refine H.then_normal ?_
    refine H.seq ?_
    refine H.block ?_
    refine H.loop (X := Nat × Option Addr × Nat) (fun p => [(2, ptr b2), (3, num 0), (4, ptr b10), (5, ptr b5)]) (fun p => osl 9 p.2.1 p.1 p.2.2 ((m.body.take p.1).map str) :: erd b10 (bdT (m.body.drop p.1)) :: osl 3 A44 m.marks.length c44 (m.marks.map num) :: osl 9 A1 m.rcpts.length c1 (m.rcpts.map str) :: blk b5 [num m.id, num m.gen, num m.born, num m.tries, num m.due, str m.frm, .slice A1 m.rcpts.length c1, .slice A44 m.marks.length c44, .slice p.2.1 p.1 p.2.2] 25 :: blk b2 [num 0, num 0, num 0, num 0, num 0, str [], .slice none 0 0, .slice none 0 0, .slice none 0 0] 25 :: cs) (fun p => p.1 ≤ m.body.length) (fun p => m.body.length - p.1) (0, none, 0) (Nat.zero_le _) (by repeat (first | exact trivial | refine ⟨rfl, ?_⟩)) (fun w hw => Own.nil_osl _ hw) ?_
    rintro ⟨k, B1, d1⟩ hk0
    simp only at hk0
    change H _ _ [(2, ptr b2), (3, num 0), (4, ptr b10), (5, ptr b5)] (osl 9 B1 k d1 ((m.body.take k).map str) :: erd b10 (bdT (m.body.drop k)) :: osl 3 A44 m.marks.length c44 (m.marks.map num) :: osl 9 A1 m.rcpts.length c1 (m.rcpts.map str) :: blk b5 [num m.id, num m.gen, num m.born, num m.tries, num m.due, str m.frm, .slice A1 m.rcpts.length c1, .slice A44 m.marks.length c44, .slice B1 k d1] 25 :: blk b2 [num 0, num 0, num 0, num 0, num 0, str [], .slice none 0 0, .slice none 0 0, .slice none 0 0] 25 :: cs) _
    refine H.seq ?_
    refine H.seq ?_
    refine H.region ?_
    refine Ops.quiet (Qt.move rfl) rfl ?_
    refine Ops.quiet (Qt.nilCheck rfl) rfl ?_
    refine Ops.quiet (Qt.fieldAddr rfl (tk rfl) rfl) rfl ?_
    refine Ops.quiet (Qt.load rfl (tk rfl) rfl (by repeat (first | exact List.Mem.head _ | apply List.Mem.tail)) (by rfl)) rfl ?_
    refine Ops.quiet (Qt.not rfl) rfl ?_
    refine Ops.quiet (Qt.move rfl) rfl ?_
    refine Ops.guard_yes rfl rfl rfl rfl rfl ?_
    refine Ops.quiet (Qt.move rfl) rfl ?_
    refine Ops.guard_yes rfl rfl rfl rfl rfl ?_
    refine Ops.quiet (Qt.nilCheck rfl) rfl ?_
    refine Ops.guard_yes rfl rfl rfl rfl rfl ?_
    refine Ops.quiet (Qt.fieldAddr rfl (tk rfl) rfl) rfl ?_
    refine Ops.guard_yes rfl rfl rfl rfl rfl ?_
    refine Ops.quiet (Qt.load rfl (tk rfl) rfl (by repeat (first | exact List.Mem.head _ | apply List.Mem.tail)) (by rfl)) rfl ?_
    refine Ops.guard_yes rfl rfl rfl rfl rfl ?_
    refine Ops.quiet (Qt.sne rfl rfl) rfl ?_
    refine Ops.quiet (Qt.pick_t rfl rfl rfl) rfl ?_
    refine Ops.nil ?_
    refine H.then_normal ?_
    refine H.cond rfl (fun h70 => ?_) (fun h70 => ?_)
    · try simp only [decide_eq_true_eq, decide_eq_false_iff_not, beq_iff_eq, beq_eq_false_iff_ne, bne_iff_ne, ne_eq, Bool.not_eq_true', Bool.not_eq_false', bne_eq_false_iff_eq, Bool.not_eq_eq_eq_not, Bool.not_true, Bool.not_false] at h70
      refine H.skip ?_
      refine H.then_normal ?_
      refine H.block ?_
      have hk2 : k < m.body.length := by
        rcases Nat.lt_or_ge k m.body.length with h | h
        · exact h
        · rw [List.drop_of_length_le h] at h70
          exact absurd rfl h70
      obtain ⟨s, hs⟩ : ∃ s, s = m.body.getD k [] := ⟨_, rfl⟩
      have hsm : s ∈ m.body := hs ▸ getD_mem [] hk2
      have hsl := hb.b s hsm
      have hok : ∀ s ∈ m.body, okB s = true := by
        have := hg.bd
        simp only [goodB, Bool.and_eq_true, List.all_eq_true] at this
        exact this.1
      have hs10 := no10_line (hok s hsm)
      have hdl : (bdT (m.body.drop (k + 1))).length ≤ 65536 := by
        have h2 : (bdT m.body).length = (bdT (m.body.take (k + 1))).length + (bdT (m.body.drop (k + 1))).length := by
          rw [← List.length_append, bdT, bdT, bdT, ← List.flatten_append, ← List.map_append, List.take_append_drop]
        omega
      have e : bdT (m.body.drop k) = s ++ 10 :: bdT (m.body.drop (k + 1)) := by rw [bdT_drop hk2, hs]
      rw [e]
      refine H.fr1 ?_
      refine H.drawn ([blk b5 [num m.id, num m.gen, num m.born, num m.tries, num m.due, str m.frm, .slice A1 m.rcpts.length c1, .slice A44 m.marks.length c44, .slice B1 k d1] 25]) 5 mixed (by kernel_rfl) ?_
      refine Hd.quiet 0 (by kernel_rfl) rfl rfl (by kernel_rfl) rfl (Qt.fieldAddr rfl (tk rfl) rfl) ?_
      refine Hd.quiet 1 (by kernel_rfl) rfl rfl (by kernel_rfl) rfl (Qt.load rfl (tk rfl) rfl (by repeat (first | exact List.Mem.head _ | apply List.Mem.tail)) (by rfl)) ?_
      refine Hd.quiet 2 (by kernel_rfl) rfl rfl (by kernel_rfl) rfl (Qt.move rfl) ?_
      refine Hd.eff 3 (by intro w hw; first | exact hw | exact Own.sub (by repeat (first | exact List.Sublist.refl _ | exact List.nil_sublist _ | apply List.Sublist.cons_cons | apply List.Sublist.cons)) hw) rfl rfl (by kernel_rfl) rfl (Ef.call (fok fab_all rfl Tryz.func41 rfl) rfl (spec_erline w0 hG.gl b10 s _ _ hs10 (by omega))) ?_
      rintro _ c0 ⟨rfl, h0⟩; subst c0
      refine Hd.eff 4 (by intro w hw; first | exact hw | exact Own.sub (by repeat (first | exact List.Sublist.refl _ | exact List.nil_sublist _ | apply List.Sublist.cons_cons | apply List.Sublist.cons)) hw) rfl rfl (by kernel_rfl) rfl (Ef.buildSlice (tk rfl) (tk rfl) rfl (zk rfl) rfl rfl rfl (by repeat (first | exact ones_nil | refine ones_cons rfl ?_))) ?_
      rintro _ _ ⟨A75, c75, rfl, rfl⟩
      refine Hd.tail (by intro w hw; first | exact hw | exact Own.sub (by repeat (first | exact List.Sublist.refl _ | exact List.nil_sublist _ | apply List.Sublist.cons_cons | apply List.Sublist.cons)) hw) (by kernel_rfl) rfl ?_
      refine Ops.eff (Ef.append1 (f := str) (l := m.body.take k) (b := s) rfl rfl (tk rfl) (tk rfl) rfl (zk rfl) (by repeat (first | assumption | exact Reads.of_head | apply Reads.tail)) (by intro _ _; repeat (first | exact Upd.head | apply Upd.tail)) (fun _ => rfl) (by dsimp only; omega) (by simp only [maxLen]; omega)) rfl ?_
      rintro _ _ ⟨A76, c76, rfl, rfl⟩
      refine Ops.quiet (Qt.fieldAddr rfl (tk rfl) rfl) rfl ?_
      refine Ops.eff (Ef.store rfl rfl (tk rfl) rfl rfl (by repeat (first | exact ones_nil | refine ones_cons rfl ?_)) (by repeat (first | exact Upd.head | apply Upd.tail)) (by rfl)) rfl ?_
      rintro _ _ rfl
      refine Ops.nil ?_
      refine H.blk_normal ?_
      refine H.then_normal ?_
      refine H.round (k + 1, A76, c76) (by show k + 1 ≤ m.body.length; omega) (by simp only []; omega) (by repeat (first | exact trivial | refine ⟨rfl, ?_⟩)) (fun w hw => ?_)
      show Own w0 w (osl 9 A76 (k + 1) c76 ((m.body.take (k + 1)).map str) :: erd b10 (bdT (m.body.drop (k + 1))) :: osl 3 A44 m.marks.length c44 (m.marks.map num) :: osl 9 A1 m.rcpts.length c1 (m.rcpts.map str) :: blk b5 [num m.id, num m.gen, num m.born, num m.tries, num m.due, str m.frm, .slice A1 m.rcpts.length c1, .slice A44 m.marks.length c44, .slice A76 (k + 1) c76] 25 :: blk b2 [num 0, num 0, num 0, num 0, num 0, str [], .slice none 0 0, .slice none 0 0, .slice none 0 0] 25 :: cs)
      rw [take_snoc [] hk2, ← hs]
      exact hw.tail.perm (.swap _ _ _)
    · try simp only [decide_eq_true_eq, decide_eq_false_iff_not, beq_iff_eq, beq_eq_false_iff_ne, bne_iff_ne, ne_eq, Bool.not_eq_true', Bool.not_eq_false', bne_eq_false_iff_eq, Bool.not_eq_eq_eq_not, Bool.not_true, Bool.not_false] at h70
      refine H.exit ?_
      refine H.then_exit ?_
      refine H.then_exit ?_
      refine H.blk_hit ?_
      refine H.then_normal ?_
      refine H.seq ?_
      refine H.seq ?_
      have hk2 : k = m.body.length := by
        rcases Nat.lt_or_ge k m.body.length with h | h
        · rw [bdT_drop h] at h70
          simp at h70
        · omega
      subst hk2
      rw [List.take_length]
      have hq := spec_egood w0 hG.gl m ⟨⟨A1, m.rcpts.length, c1⟩, ⟨A44, m.marks.length, c44⟩, ⟨B1, m.body.length, d1⟩⟩ hb
      rw [goodM_iff.2 hg] at hq
      refine H.region ?_
      refine Ops.quiet (Qt.move rfl) rfl ?_
      refine Ops.quiet (Qt.nilCheck rfl) rfl ?_
      refine Ops.quiet (Qt.fieldAddr rfl (tk rfl) rfl) rfl ?_
      refine Ops.quiet (Qt.load rfl (tk rfl) rfl (by repeat (first | exact List.Mem.head _ | apply List.Mem.tail)) (by rfl)) rfl ?_
      refine Ops.quiet (Qt.move rfl) rfl ?_
      refine Ops.guard_yes rfl rfl rfl rfl rfl ?_
      refine Ops.quiet (Qt.load_agg rfl (tk rfl) rfl (by repeat (first | exact List.Mem.head _ | apply List.Mem.tail)) (by rfl) (by rfl)) rfl ?_
      refine Ops.guard_yes rfl rfl rfl rfl rfl ?_
      refine Ops.eff (Ef.call (fok fab_all rfl Tryz.func27 rfl) rfl (hq _ ⟨osl_reads (by repeat (first | exact List.Mem.head _ | apply List.Mem.tail)), osl_reads (by repeat (first | exact List.Mem.head _ | apply List.Mem.tail)), osl_reads (by repeat (first | exact List.Mem.head _ | apply List.Mem.tail))⟩)) rfl ?_
      rintro _ c0 ⟨rfl, h0⟩; subst c0
      refine Ops.guard_yes rfl rfl rfl rfl rfl ?_
      refine Ops.quiet (Qt.not rfl) rfl ?_
      refine Ops.quiet (Qt.pick_f rfl rfl rfl) rfl ?_
      refine Ops.nil ?_
      refine H.then_normal ?_
      refine H.cond_false rfl (by rfl) ?_
      refine H.skip ?_
      refine H.then_normal ?_
      refine H.seq ?_
      refine H.region ?_
      refine Ops.quiet (Qt.load_agg rfl (tk rfl) rfl (by repeat (first | exact List.Mem.head _ | apply List.Mem.tail)) (by rfl) (by rfl)) rfl ?_
      refine Ops.eff (Ef.store rfl rfl (tk rfl) rfl rfl (by repeat (first | exact ones_nil | refine ones_cons rfl ?_)) (by repeat (first | exact Upd.head | apply Upd.tail)) (by rfl)) rfl ?_
      rintro _ _ rfl
      refine Ops.quiet (Qt.assign rfl) rfl ?_
      refine Ops.nil ?_
      refine H.then_normal ?_
      refine H.ret ?_
      refine (H.ends_to (cs' := osl 9 A1 m.rcpts.length c1 (m.rcpts.map str) :: osl 3 A44 m.marks.length c44 (m.marks.map num) :: osl 9 B1 m.body.length d1 (m.body.map str) :: cs) rfl (.cons (.agg rfl (tk rfl) rfl (by repeat (first | exact List.Mem.head _ | apply List.Mem.tail)) (by rfl) (by rfl)) (.cons (.tmp rfl) .nil)) (fun w hw => ?_) ?_)
      · have h1 : Own w0 w (osl 9 B1 m.body.length d1 (m.body.map str) :: osl 3 A44 m.marks.length c44 (m.marks.map num) :: osl 9 A1 m.rcpts.length c1 (m.rcpts.map str) :: cs) := hw.sub (by repeat (first | exact List.Sublist.refl _ | exact List.nil_sublist _ | apply List.Sublist.cons_cons | apply List.Sublist.cons))
        exact h1.perm (List.Perm.append_right cs (List.reverse_perm [osl 9 A1 m.rcpts.length c1 (m.rcpts.map str), osl 3 A44 m.marks.length c44 (m.marks.map num), osl 9 B1 m.body.length d1 (m.body.map str)]))
      · exact ⟨⟨⟨A1, m.rcpts.length, c1⟩, ⟨A44, m.marks.length, c44⟩, ⟨B1, m.body.length, d1⟩⟩, rfl, rfl⟩
end Go.Proofs.YtbglphpinhjfeaaGreatDoor
