/- What the rows' and the cards' proofs share. -/
import Derived.Test.YtbglphpinhjfeaaGreatDoorRdr
import Derived.Test.YtbglphpinhjfeaaGreatDoorRows
import Derived.Test.YtbglphpinhjfeaaGreatDoorCards
import Derived.Test.YtbglphpinhjfeaaGreatDoorTie
import Derived.ProofKit
import Derived.HandedShaped
import Derived.LaidMore
import Derived.Lay
import Derived.LaidSub
import Derived.OpenShut
import Derived.Stop.Joined
namespace Go.Proofs.YtbglphpinhjfeaaGreatDoor
open Go.ChangeShapes Go.WideShapes Go.ChangeAt Go.RowKit
set_option maxRecDepth 100000
set_option linter.unusedVariables false
/-- The wrap that keeps the laid variables and the world's shape both. -/
theorem returns_laid_shaped {H : Type} {enc : TypeId × Value → H} {a : Assume} {C : Checked} {os : Os} {f : FuncId} {fn : Func} {s : ChangeSpec} {conds : List PathCond} {apart fresh handsOn again : Bool} {X : World → Array Value → Prop}
    (hX : ∀ (w w' : World) (args : Array Value), w.heap = w'.heap → X w args → X w' args)
    (own : ownKnob C.prog.godebug = none) (started : os.Started) (noInit : C.prog.inits.idxOf? f = none) (hfn : C.prog.funcs[f]? = some fn)
    (witness : ∃ (w : World) (tape : Tape) (i : Input), w.os = os ∧ (w.forCall tape i).Shaped C.prog ∧ i.vars = [] ∧ Input.okWide C.prog (w.forCall tape i) .any w.heap.size f i ∧
      ((s.pre enc C.prog fn conds apart (w.forCall tape i).memory i.args ∧ X (w.forCall tape i).memory i.args) ∧ sizedMet enc C.prog fn (OpenSpec.ofChange s) apart (w.forCall tape i).memory i.args) ∧ a.holds C.prog (lone (Frame.enter C.prog f i.args .normal) [] (w.forCall tape i)))
    (contract : ∀ (W : World) (base : Nat) (args : Array Value) (ds gs : List (DataW H)) (before : List MemPlace),
      (∀ (j : Nat) t v, fn.params[j]? = some t → args[j]? = some v → Value.okWide C.prog W .any base t v) →
      DataW.Whole enc C.prog fn.params.toList s.vars apart W args.toList ds gs before →
      conds.all (PathCond.test C.prog ⟨fn.params.toList, ds, s.plain.varTypes C.prog, gs⟩) = true →
      (DataW.weightsEach C.prog (fn.params.toList ++ s.plain.varTypes C.prog) (ds ++ gs)).all (· ≤ reachBytes) = true → X W args →
      W.ShapedOpen C.prog →
      Calls C.prog f args W fun e W' => ∃ v, e = .returned v ∧ s.post enc C.prog fn apart fresh handsOn again W args v W') :
    ReturnsInHanded a C os f .any (fun w args => (s.pre enc C.prog fn conds apart w args ∧ X w args) ∧ sizedMet enc C.prog fn (OpenSpec.ofChange s) apart w args) (s.post enc C.prog fn apart fresh handsOn again) := by
  refine returnsInHanded_of_calls own started noInit witness ?_
  intro w tape i _ hsh _ hok hpre hholds
  obtain ⟨_, _, _, fn', hfn', _, _, _, _, hval⟩ := hok
  have e : fn' = fn := Option.some.inj (hfn'.symm.trans hfn)
  subst e
  obtain ⟨⟨⟨ds, gs, before, hw, hc⟩, hx⟩, hz⟩ := hpre
  have hw' := DataW.Whole.of_heap (w' := w.forCall tape i) (by rfl) hw
  refine (contract (w.forCall tape i) w.heap.size i.args ds gs before hval hw' hc (hz.weights hw) (hX _ _ _ (by rfl) hx) hsh).mono fun e W' ⟨v, he, hp⟩ => ?_
  subst he
  exact ChangeSpec.post_blind hp
theorem laidMetH_all {P : Program} {os : Os} {laid : List (String × DataW Unit)} (args : Array Value)
    (h1 : (laid.filter fun x => x.2.handleName?.isNone) = laid) (h2 : (laid.filter fun x => x.2.handleName?.isSome) = [])
    (hf : (World.holding P os ⟨#[], #[], []⟩).layFits P laid [] = true)
    (hi : (World.holding P os ⟨#[], #[], []⟩).layIfaces P laid (World.laidAll P os laid) = true) :
    laidMetH P laid ((World.laidAll P os laid).forCall (fun _ _ => 0) ⟨#[], args, []⟩).memory := by
  refine laidMetH_iff.2 ⟨?_, ?_⟩
  · rw [h1]; exact laidMet_laidAll args hf hi
  · rw [h2]; exact fun x hx => by cases hx
theorem own : ownKnob Tryz.prog.godebug = none := by kernel_rfl
theorem laidOut : laidOutB Tryz.prog = true := by kernel_rfl
theorem gl_of {W : World} (h : W.ShapedOpen Tryz.prog) : Gl W :=
  ⟨Go.Proofs.cell_of_shapedOpen_int (zero := #[.int .i64 0]) (t := 3) h (of_decide_eq_true (by kernel_rfl)) (by kernel_rfl) rfl (by kernel_rfl) (by kernel_rfl) Tryz.underlying3⟩
/-- A contract with no memory left over is a call that turns nothing. -/
theorem Spec.calls {W : World} {f : FuncId} {args : List Value} {R : Value → List SProp → Prop} (h : Spec Tryz.prog W f args [] R) : Calls Tryz.prog f args.toArray W fun e W' => ∃ v cs', e = .returned v ∧ R v cs' ∧ Below W.heap.size W W' :=
  (h W (Own.start W)).mono fun e W' ⟨v, cs', h1, h2, h3⟩ => ⟨v, cs', h1, h2, h3.below⟩
theorem reads_base {W : World} {cs : List SProp} {A : Option Addr} {n c : Nat} {xs : List Value} (h1 : xs.length = n) (h2 : n ≤ c) (h3 : c ≤ maxLen) (h4 : A = none → c = 0) (h5 : ∀ j x, xs[j]? = some x → W.cell? (sadr A j) = some x) : Reads W cs A n c xs :=
  fun w ho => ⟨h1, h2, h3, h4, fun j x h => ho.base_cell (h5 j x h)⟩
theorem weights_strs {H : Type} {P : Program} {e : TypeId} : ∀ {ss : List ByteArray} {s : ByteArray}, s ∈ ss → s.data.toList.length ∈ DataW.weightsAll (H := H) P e (strs ss)
  | b :: ss, s, h => by
    have e1 : DataW.weightsAll (H := H) P e (strs (b :: ss)) = [b.data.toList.length] ++ DataW.weightsAll (H := H) P e (strs ss) := by simp [strs, DataW.weightsAll, DataW.weights]
    rw [e1]
    rcases List.mem_cons.1 h with rfl | h
    · exact List.mem_append_left _ (List.mem_singleton.2 rfl)
    · exact List.mem_append_right _ (weights_strs h)
/-- A []string that was passed in. -/
theorem open_strl {H : Type} {enc : TypeId × Value → H} {P : Program} {W : World} {t e fuel len cap : Nat} {a0 : Option Addr} {x : DataW H × List MemPlace} (ht : P.underlying t = some (.slice e)) (he : P.underlying e = some .string) (hc : P.cellsOf e = 1)
    (h : DataW.trod enc P W 0 (fun _ => true) true fuel t [.slice a0 len cap] = some x) : ∃ l : List Bs, (∀ cs, Reads W cs a0 len cap (l.map str)) ∧ (∀ s ∈ l, s.length ∈ x.1.weights P t) := by
  rcases open_strings ht he hc h with ⟨h1, _⟩ | ⟨a, len', cap', ss, h1, _, h2, h3, h4, rfl, h5, h6⟩
  · simp only [List.cons.injEq, Value.slice.injEq, and_true] at h1
    obtain ⟨rfl, rfl, rfl⟩ := h1
    exact ⟨[], fun cs => reads_base rfl (Nat.le_refl _) (by simp [maxLen]) (fun _ => rfl) (fun j x h => by simp at h), by simp⟩
  · simp only [List.cons.injEq, Value.slice.injEq, and_true] at h1
    obtain ⟨rfl, rfl, rfl⟩ := h1
    simp only [if_true] at h4
    refine ⟨(ss.take len).map fun s => s.data.toList, fun cs => reads_base (by simp; omega) h2 h3 (fun e => by cases e) ?_, ?_⟩
    · intro j x hx
      simp only [List.map_map, List.getElem?_map, Option.map_eq_some_iff] at hx
      obtain ⟨s, hs, rfl⟩ := hx
      have hj : j < len := by
        have := (List.getElem?_eq_some_iff.1 hs).1
        simp at this; omega
      have hs2 : ss[j]? = some s := by rwa [List.getElem?_take_of_lt hj] at hs
      have := h5 j (by omega)
      show W.cell? (a.add j) = some (.string ⟨⟨s.data.toList⟩⟩)
      rw [this, ba_eq]
      simp [List.getD_eq_getElem?_getD, hs2]
    · intro s hs
      obtain ⟨b, hb, rfl⟩ := List.mem_map.1 hs
      simp only [DataW.weights, ht]
      exact .tail _ (List.mem_append_left _ (weights_strs hb))
/-- .. and how many there may be. -/
theorem open_strl_len {H : Type} {enc : TypeId × Value → H} {P : Program} {W : World} {t e fuel len cap : Nat} {a0 : Option Addr} {x : DataW H × List MemPlace} (ht : P.underlying t = some (.slice e)) (he : P.underlying e = some .string) (hc : P.cellsOf e = 1) (hb : P.bytesOf e = 16)
    (h : DataW.trod enc P W 0 (fun _ => true) true fuel t [.slice a0 len cap] = some x) : len = 0 ∨ ∃ m ∈ x.1.weights P t, len * 16 ≤ m := by
  rcases open_strings ht he hc h with ⟨h1, _⟩ | ⟨a, len', cap', ss, h1, _, h2, h3, h4, rfl, h5, h6⟩
  · simp only [List.cons.injEq, Value.slice.injEq, and_true] at h1
    exact .inl h1.2.1
  · simp only [List.cons.injEq, Value.slice.injEq, and_true] at h1
    obtain ⟨rfl, rfl, rfl⟩ := h1
    simp only [if_true] at h4
    refine .inr ⟨((strs (H := H) (ss.take len)).length + (strs (H := H) (ss.drop len)).length) * P.bytesOf e, ?_, ?_⟩
    · simp only [DataW.weights, ht]
      exact .head _
    · rw [hb]
      simp only [strs, List.length_map, List.length_take, List.length_drop]
      omega
/-- A []byte that was passed in. -/
theorem open_bl {H : Type} {enc : TypeId × Value → H} {P : Program} {W : World} {t e fuel : Nat} {v : Value} {x : DataW H × List MemPlace} (ht : P.underlying t = some (.slice e)) (he : P.underlying e = some (.int .u8)) (hc : P.cellsOf e = 1) (hb : P.bytesOf e = 1)
    (h : DataW.trod enc P W 0 (fun _ => true) true fuel t [v] = some x) : ∃ p : Pk, v = slv p ∧ (∀ cs, Reads W cs p.A p.n p.c (p.l.map u8v)) ∧ (p.l.length = 0 ∨ ∃ m ∈ x.1.weights P t, p.l.length ≤ m) := by
  rcases open_ints ht he hc h with ⟨h1, _⟩ | ⟨a, len, cap, zs, h1, _, h2, h3, h4, rfl, h5, h6⟩
  · simp only [List.cons.injEq, and_true] at h1
    subst h1
    exact ⟨⟨none, 0, 0, []⟩, rfl, fun cs => reads_base rfl (Nat.le_refl _) (by simp [maxLen]) (fun _ => rfl) (fun j x h => by simp at h), .inl rfl⟩
  · simp only [List.cons.injEq, and_true] at h1
    subst h1
    simp only [if_true] at h4
    refine ⟨⟨some a, len, cap, (zs.take len).map fun z => UInt8.ofNat z.toNat⟩, rfl, fun cs => reads_base (by simp; omega) h2 h3 (fun e => by cases e) ?_, .inr ⟨(zs.take len).length + (zs.drop len).length, ?_, by simp⟩⟩
    · intro j x hx
      simp only [List.map_map, List.getElem?_map, Option.map_eq_some_iff] at hx
      obtain ⟨z, hz, rfl⟩ := hx
      have hj : j < len := by
        have := (List.getElem?_eq_some_iff.1 hz).1
        simp at this; omega
      have hz2 : zs[j]? = some z := by rwa [List.getElem?_take_of_lt hj] at hz
      have hw := h6 z (List.mem_of_getElem? hz2)
      have h1 : IntKind.u8.min = 0 := rfl
      have h2 : IntKind.u8.max = 255 := rfl
      simp only [Lit.wf, Bool.and_eq_true, decide_eq_true_eq] at hw
      have := h5 j (by omega)
      show W.cell? (a.add j) = some (.int .u8 ((UInt8.ofNat z.toNat).toNat : Int))
      rw [this]
      have h9 : zs.getD j 0 = z := by simp [List.getD_eq_getElem?_getD, hz2]
      rw [h9]
      congr 2
      simp only [UInt8.toNat_ofNat']
      omega
    · simp only [DataW.weights, ht, hb, Nat.mul_one]
      have hl : ∀ zs : List Int, (lits (H := H) .u8 zs).length = zs.length := by intro zs; simp [lits]
      rw [hl, hl]
      exact .head _
theorem weightsAll_mem {H : Type} {P : Program} {e : TypeId} : ∀ {ds : List (DataW H)} {d : DataW H} {m : Nat}, d ∈ ds → m ∈ d.weights P e → m ∈ DataW.weightsAll P e ds
  | b :: ds, d, m, h, hm => by
    simp only [DataW.weightsAll]
    rcases List.mem_cons.1 h with rfl | h
    · exact List.mem_append_left _ hm
    · exact List.mem_append_right _ (weightsAll_mem h hm)
/-- A [][]byte that was passed in. -/
theorem open_bll {H : Type} {enc : TypeId × Value → H} {P : Program} {W : World} {t e u fuel len cap : Nat} {a0 : Option Addr} {x : DataW H × List MemPlace} (ht : P.underlying t = some (.slice e)) (he : P.underlying e = some (.slice u)) (hu : P.underlying u = some (.int .u8)) (hc : P.cellsOf e = 1) (hcu : P.cellsOf u = 1) (hbu : P.bytesOf u = 1)
    (h : DataW.trod enc P W 0 (fun _ => true) true fuel t [.slice a0 len cap] = some x) :
    ∃ said : List Pk, (∀ cs, Reads W cs a0 len cap (said.map slv)) ∧ ∀ p ∈ said, (∀ cs, Reads W cs p.A p.n p.c (p.l.map u8v)) ∧ (p.l.length = 0 ∨ ∃ m ∈ x.1.weights P t, p.l.length ≤ m) := by
  rcases DataW.trod_slice ht h with ⟨h1, _⟩ | ⟨a, len', cap', elems, rest, n, _, h1, rfl, _, h2, h3, h4, h5, _, _⟩
  · simp only [List.cons.injEq, Value.slice.injEq, and_true] at h1
    obtain ⟨rfl, rfl, rfl⟩ := h1
    exact ⟨[], fun cs => reads_base rfl (Nat.le_refl _) (by simp [maxLen]) (fun _ => rfl) (fun j x h => by simp at h), by simp⟩
  · simp only [List.cons.injEq, Value.slice.injEq, and_true] at h1
    obtain ⟨rfl, rfl, rfl⟩ := h1
    have key : ∀ i : Fin len, ∃ p : Pk, W.cell? (a.add i.1) = some (slv p) ∧ (∀ cs, Reads W cs p.A p.n p.c (p.l.map u8v)) ∧ (p.l.length = 0 ∨ ∃ m ∈ DataW.weights P t (.slice (elems.map (·.1)) (rest.map (·.1))), p.l.length ≤ m) := by
      intro ⟨i, hi⟩
      have hE := h5 i hi
      rw [hc, Nat.mul_one] at hE
      have hy : elems[i]? = some elems[i] := List.getElem?_eq_getElem (by omega)
      rw [hy] at hE
      simp only [Option.bind_eq_some_iff] at hE
      obtain ⟨c1, hc1, hy1⟩ := hE
      have e0 : (a.add i).add 0 = a.add i := by simp [Addr.add]
      have : ∃ c, c1 = [c] ∧ W.cell? (a.add i) = some c := by
        unfold World.cells? at hc1
        split at hc1
        · simp only [List.range_succ, List.range_zero, List.nil_append, List.mapM_cons, List.mapM_nil, e0] at hc1
          cases hcc : W.cell? (a.add i) with
          | none => simp [hcc] at hc1
          | some c => simp [hcc] at hc1; exact ⟨c, hc1.symm, rfl⟩
        · cases hc1
      obtain ⟨v, rfl, hv⟩ := this
      obtain ⟨p, rfl, hp1, hp2⟩ := open_bl he hu hcu hbu hy1
      refine ⟨p, hv, hp1, ?_⟩
      rcases hp2 with h | ⟨m, hm, hm2⟩
      · exact .inl h
      · refine .inr ⟨m, ?_, hm2⟩
        simp only [DataW.weights, ht]
        exact .tail _ (List.mem_append_left _ (weightsAll_mem (List.mem_map_of_mem (List.getElem_mem (show i < elems.length by omega))) hm))
    refine ⟨List.ofFn fun i : Fin len => Classical.choose (key i), fun cs => reads_base (by simp) h2 h3 (fun e => by cases e) ?_, ?_⟩
    · intro j x hx
      simp only [List.getElem?_map, Option.map_eq_some_iff, List.getElem?_ofFn] at hx
      obtain ⟨p, hp, rfl⟩ := hx
      split at hp
      · rename_i hj
        have hp' := Option.some.inj hp
        have := (Classical.choose_spec (key ⟨j, hj⟩)).1
        rw [hp'] at this
        exact this
      · cases hp
    · intro p hp
      obtain ⟨i, rfl⟩ := List.mem_ofFn.1 hp
      exact (Classical.choose_spec (key i)).2
end Go.Proofs.YtbglphpinhjfeaaGreatDoor
