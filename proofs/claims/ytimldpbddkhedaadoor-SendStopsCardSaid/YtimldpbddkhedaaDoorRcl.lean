/- The document's session with the next hop. -/
import Derived.Test.YtimldpbddkhedaaDoorRef
namespace Go.Proofs.YtimldpbddkhedaaDoor
open Go Go.RowKit
set_option maxRecDepth 100000
set_option linter.unusedVariables false
set_option linter.unusedSimpArgs false
attribute [local irreducible] Go.wpList Go.Code.wp Go.Exit.then Go.Exit.inBlock Go.Exit.noGoto Ends blk osl oblk LoopI Own Spec
/-- The arguments' slices that the session keeps. -/
structure Ra where
  tA : Option Addr
  tn : Nat
  tc : Nat
  bA : Option Addr
  bn : Nat
  bc : Nat
def codeOf (c : Cl) : Int := if c.rlines.length = 0 then 0 else c.rcode
def stepOf (c : Cl) : Int := if c.state = 3 then 3 + c.at_ else if c.state = 4 then -1 else if c.state = 5 then -2 else c.state
def refc (b : Nat) (a : Ra) (c : Cl) : SProp :=
  exS fun st => exS fun cd => exS fun wA => exS fun wn => exS fun wc => exS fun sA => exS fun sn => exS fun sc => exS fun cA => exS fun cn => exS fun cc =>
  bun [pur (c.over = false → st = stepOf c ∧ cd = codeOf c), blk b [str c.host, str c.frm, .slice a.tA a.tn a.tc, .slice a.bA a.bn a.bc, .slice wA wn wc, num cd, .slice sA sn sc, num st, .slice cA cn cc, bol c.over] 33, osl 5 wA wn wc (c.wait.map u8v), osl 9 sA sn sc (c.out.map str), osl 3 cA cn cc (c.codes.map num)]
theorem refc_mk (c : Cl) {a : Ra} {b wn wc sn sc cn cc : Nat} {st cd : Int} {wA sA cA : Option Addr} {fr : List SProp} {w0 w : World} (hp : c.over = false → st = stepOf c ∧ cd = codeOf c)
    (h : Own w0 w (blk b [str c.host, str c.frm, .slice a.tA a.tn a.tc, .slice a.bA a.bn a.bc, .slice wA wn wc, num cd, .slice sA sn sc, num st, .slice cA cn cc, bol c.over] 33 :: osl 5 wA wn wc (c.wait.map u8v) :: osl 9 sA sn sc (c.out.map str) :: osl 3 cA cn cc (c.codes.map num) :: fr)) : Own w0 w (refc b a c :: fr) :=
  Own.ex_iff.2 ⟨st, Own.ex_iff.2 ⟨cd, Own.ex_iff.2 ⟨wA, Own.ex_iff.2 ⟨wn, Own.ex_iff.2 ⟨wc, Own.ex_iff.2 ⟨sA, Own.ex_iff.2 ⟨sn, Own.ex_iff.2 ⟨sc, Own.ex_iff.2 ⟨cA, Own.ex_iff.2 ⟨cn, Own.ex_iff.2 ⟨cc, Own.bun_iff.2 (Own.pur_iff.2 ⟨hp, h⟩)⟩⟩⟩⟩⟩⟩⟩⟩⟩⟩⟩
theorem H.open_refc {N : Nat} {w0 : World} {e : Env} {J : Act → World → Prop} {b : Nat} {a : Ra} {c : Cl} {fr : List SProp}
    (h : ∀ (st cd : Int) (wA : Option Addr) (wn wc : Nat) (sA : Option Addr) (sn sc : Nat) (cA : Option Addr) (cn cc : Nat), (c.over = false → st = stepOf c ∧ cd = codeOf c) → (c.wait.length = wn ∧ wn ≤ wc ∧ wc ≤ 9223372036854775807) → (c.out.length = sn ∧ sn ≤ sc ∧ sc ≤ 9223372036854775807) → (c.codes.length = cn ∧ cn ≤ cc ∧ cc ≤ 9223372036854775807) →
      H N w0 e (blk b [str c.host, str c.frm, .slice a.tA a.tn a.tc, .slice a.bA a.bn a.bc, .slice wA wn wc, num cd, .slice sA sn sc, num st, .slice cA cn cc, bol c.over] 33 :: osl 5 wA wn wc (c.wait.map u8v) :: osl 9 sA sn sc (c.out.map str) :: osl 3 cA cn cc (c.codes.map num) :: fr) J) : H N w0 e (refc b a c :: fr) J := by
  refine H.ex fun st => H.ex fun cd => H.ex fun wA => H.ex fun wn => H.ex fun wc => H.ex fun sA => H.ex fun sn => H.ex fun sc => H.ex fun cA => H.ex fun cn => H.ex fun cc => H.bun ?_
  simp only [List.cons_append, List.nil_append]
  refine H.pur fun hp => ?_
  refine H.fact (fun w hw => (Own.len (osl_reads (.tail _ (.head _))) hw)) fun tl => ?_
  refine H.fact (fun w hw => (Own.len (osl_reads (.tail _ (.tail _ (.head _)))) hw)) fun ol => ?_
  refine H.fact (fun w hw => (Own.len (osl_reads (.tail _ (.tail _ (.tail _ (.head _))))) hw)) fun cl => ?_
  simp only [List.length_map] at tl ol cl
  exact h st cd wA wn wc sA sn sc cA cn cc hp tl ol cl
theorem refc_over {X Y : Cl} {a : Ra} {b : Nat} {fr : List SProp} {w0 w : World} (h1 : X.host = Y.host) (h2 : X.frm = Y.frm) (h3 : X.wait = Y.wait) (h4 : X.out = Y.out) (h5 : X.codes = Y.codes) (h6 : X.over = true) (h7 : Y.over = true) (h : Own w0 w (refc b a X :: fr)) : Own w0 w (refc b a Y :: fr) := by
  unfold refc at h ⊢
  rw [h1, h2, h3, h4, h5, h6] at h
  rw [h7]
  obtain ⟨st, h⟩ := Own.ex_iff.1 h
  obtain ⟨cd, h⟩ := Own.ex_iff.1 h
  obtain ⟨wA, h⟩ := Own.ex_iff.1 h
  obtain ⟨wn, h⟩ := Own.ex_iff.1 h
  obtain ⟨wc, h⟩ := Own.ex_iff.1 h
  obtain ⟨sA, h⟩ := Own.ex_iff.1 h
  obtain ⟨sn, h⟩ := Own.ex_iff.1 h
  obtain ⟨sc, h⟩ := Own.ex_iff.1 h
  obtain ⟨cA, h⟩ := Own.ex_iff.1 h
  obtain ⟨cn, h⟩ := Own.ex_iff.1 h
  obtain ⟨cc, h⟩ := Own.ex_iff.1 h
  obtain ⟨_, h⟩ := Own.pur_iff.1 (Own.bun_iff.1 h)
  exact Own.ex_iff.2 ⟨st, Own.ex_iff.2 ⟨cd, Own.ex_iff.2 ⟨wA, Own.ex_iff.2 ⟨wn, Own.ex_iff.2 ⟨wc, Own.ex_iff.2 ⟨sA, Own.ex_iff.2 ⟨sn, Own.ex_iff.2 ⟨sc, Own.ex_iff.2 ⟨cA, Own.ex_iff.2 ⟨cn, Own.ex_iff.2 ⟨cc, Own.bun_iff.2 (Own.pur_iff.2 ⟨fun e => Bool.noConfusion e, h⟩)⟩⟩⟩⟩⟩⟩⟩⟩⟩⟩⟩
theorem refc_body (b : Nat) (a : Ra) (c : Cl) (x : Bs) : refc b a { c with body := x } = refc b a c := by unfold refc; rfl
theorem refc_same {X Y : Cl} {a : Ra} {b : Nat} (h1 : X.host = Y.host) (h2 : X.frm = Y.frm) (h3 : X.wait = Y.wait) (h4 : X.out = Y.out) (h5 : X.codes = Y.codes) (h6 : X.over = Y.over) (h7 : stepOf X = stepOf Y) (h8 : codeOf X = codeOf Y) : refc b a X = refc b a Y := by
  unfold refc
  rw [h1, h2, h3, h4, h5, h6, h7, h8]
attribute [irreducible] refc
theorem spec_rend (w0 : World) (b : Nat) (a : Ra) (c : Cl) (code : Int) (fr : List SProp) :
    Spec Tryd.prog w0 25 [ptr b, num code] (refc b a c :: fr) (fun v cs' => v = unit ∧ cs' = refc b a (c.fin code) :: fr) := by
  refine Spec.of_body Tryd.func25 rfl Tryd.ntmps25 rfl ?_
  refine H.open_refc fun st cd wA wn wc sA sn sc cA cn cc hsc ⟨wl1, wl2, wl3⟩ ⟨sl1, sl2, sl3⟩ ⟨cl1, cl2, cl3⟩ => ?_
  refine H.seq ?_
  refine H.seq ?_
  refine H.region ?_
  refine Ops.quiet (Qt.assign rfl) rfl ?_
  refine Ops.nil ?_
  refine H.then_normal ?_
  refine H.block ?_
  refine H.loop (X := Nat) (fun k => [(0, ptr b), (1, num code), (4, num k)])
    (fun k => blk b [str c.host, str c.frm, .slice a.tA a.tn a.tc, .slice a.bA a.bn a.bc, .slice wA wn wc, num cd, .slice sA sn sc, num st, .slice cA cn cc, bol c.over] 33 :: osl 5 wA wn wc (c.wait.map u8v) :: osl 9 sA sn sc (c.out.map str) :: osl 3 cA cn cc ((endC code (c.codes.take k) ++ c.codes.drop k).map num) :: fr)
    (fun k => k ≤ cn) (fun k => cn - k) 0 (Nat.zero_le _) (by repeat (first | exact trivial | refine ⟨rfl, ?_⟩)) (fun w hw => hw) ?_
  intro k hk
  have hL := endC_len code c.codes k
  refine H.seq ?_
  refine H.seq ?_
  refine H.region ?_
  refine Ops.quiet (Qt.move rfl) rfl ?_
  refine Ops.quiet (Qt.move rfl) rfl ?_
  refine Ops.quiet (Qt.nilCheck rfl) rfl ?_
  refine Ops.quiet (Qt.fieldAddr rfl (tk rfl) rfl) rfl ?_
  refine Ops.quiet (Qt.load rfl (tk rfl) rfl (by repeat (first | exact List.Mem.head _ | apply List.Mem.tail)) (by rfl)) rfl ?_
  refine Ops.quiet (Qt.len_sl (ats := #[]) rfl (tk rfl)) rfl ?_
  refine Ops.quiet (Qt.lss rfl rfl) rfl ?_
  refine Ops.nil ?_
  refine H.then_normal ?_
  refine H.cond rfl (fun h11 => ?_) (fun h11 => ?_)
  · try simp only [decide_eq_true_eq, decide_eq_false_iff_not, beq_iff_eq, beq_eq_false_iff_ne, bne_iff_ne, ne_eq, Bool.not_eq_true', Bool.not_eq_false', bne_eq_false_iff_eq, Bool.not_eq_eq_eq_not, Bool.not_true, Bool.not_false] at h11
    have hk' : k < c.codes.length := by omega
    have ha := endC_at code c.codes k hk'
    refine H.skip ?_
    refine H.then_normal ?_
    refine H.seq ?_
    refine H.block ?_
    refine H.seq ?_
    refine H.region ?_
    refine Ops.quiet (Qt.move rfl) rfl ?_
    refine Ops.quiet (Qt.nilCheck rfl) rfl ?_
    refine Ops.quiet (Qt.fieldAddr rfl (tk rfl) rfl) rfl ?_
    refine Ops.quiet (Qt.load rfl (tk rfl) rfl (by repeat (first | exact List.Mem.head _ | apply List.Mem.tail)) (by rfl)) rfl ?_
    refine Ops.quiet (Qt.move rfl) rfl ?_
    refine Ops.quiet (Qt.indexAddr rfl rfl (tk rfl) (tk rfl) rfl (by repeat (first | assumption | exact Reads.of_head | apply Reads.tail)) (by omega) (by omega)) rfl ?_
    refine Ops.quiet (Qt.load_map (0 : Int) rfl (tk rfl) rfl (by repeat (first | assumption | exact Reads.of_head | apply Reads.tail)) (by omega)) rfl ?_
    refine Ops.quiet (Qt.eql rfl rfl) rfl ?_
    refine Ops.nil ?_
    refine H.then_normal ?_
    refine H.cond rfl (fun h21 => ?_) (fun h21 => ?_)
    · try simp only [decide_eq_true_eq, decide_eq_false_iff_not, beq_iff_eq, beq_eq_false_iff_ne, bne_iff_ne, ne_eq, Bool.not_eq_true', Bool.not_eq_false', bne_eq_false_iff_eq, Bool.not_eq_eq_eq_not, Bool.not_true, Bool.not_false] at h21
      refine H.region ?_
      refine Ops.quiet (Qt.move rfl) rfl ?_
      refine Ops.quiet (Qt.nilCheck rfl) rfl ?_
      refine Ops.quiet (Qt.fieldAddr rfl (tk rfl) rfl) rfl ?_
      refine Ops.quiet (Qt.load rfl (tk rfl) rfl (by repeat (first | exact List.Mem.head _ | apply List.Mem.tail)) (by rfl)) rfl ?_
      refine Ops.quiet (Qt.move rfl) rfl ?_
      refine Ops.quiet (Qt.move rfl) rfl ?_
      refine Ops.quiet (Qt.indexAddr rfl rfl (tk rfl) (tk rfl) rfl (by repeat (first | assumption | exact Reads.of_head | apply Reads.tail)) (by omega) (by omega)) rfl ?_
      refine Ops.eff (Ef.store_map rfl rfl (tk rfl) rfl (fun _ => rfl) (by repeat (first | exact Upd.head | apply Upd.tail)) (by omega)) rfl ?_
      rintro _ _ rfl
      refine Ops.nil ?_
      refine H.blk_normal ?_
      refine H.then_normal ?_
      refine H.region ?_
      refine Ops.quiet (Qt.move rfl) rfl ?_
      refine Ops.quiet (Qt.add64 rfl rfl (by omega) (by omega)) rfl ?_
      refine Ops.quiet (Qt.assign rfl) rfl ?_
      refine Ops.nil ?_
      refine H.then_normal ?_
      refine H.round (k + 1) (by omega) (by omega) (by repeat (first | exact trivial | refine ⟨rfl, ?_⟩)) (fun w hw => ?_)
      have e1 := endC_set code c.codes k hk' (by rw [← ha]; exact h21)
      rw [← e1]; exact hw
    · try simp only [decide_eq_true_eq, decide_eq_false_iff_not, beq_iff_eq, beq_eq_false_iff_ne, bne_iff_ne, ne_eq, Bool.not_eq_true', Bool.not_eq_false', bne_eq_false_iff_eq, Bool.not_eq_eq_eq_not, Bool.not_true, Bool.not_false] at h21
      refine H.skip ?_
      refine H.blk_normal ?_
      refine H.then_normal ?_
      refine H.region ?_
      refine Ops.quiet (Qt.move rfl) rfl ?_
      refine Ops.quiet (Qt.add64 rfl rfl (by omega) (by omega)) rfl ?_
      refine Ops.quiet (Qt.assign rfl) rfl ?_
      refine Ops.nil ?_
      refine H.then_normal ?_
      refine H.round (k + 1) (by omega) (by omega) (by repeat (first | exact trivial | refine ⟨rfl, ?_⟩)) (fun w hw => ?_)
      have e1 := endC_keep code c.codes k hk' (by rw [← ha]; exact h21)
      rw [← e1]; exact hw
  · try simp only [decide_eq_true_eq, decide_eq_false_iff_not, beq_iff_eq, beq_eq_false_iff_ne, bne_iff_ne, ne_eq, Bool.not_eq_true', Bool.not_eq_false', bne_eq_false_iff_eq, Bool.not_eq_eq_eq_not, Bool.not_true, Bool.not_false] at h11
    refine H.exit ?_
    refine H.then_exit ?_
    refine H.then_exit ?_
    refine H.blk_hit ?_
    refine H.then_normal ?_
    refine H.region ?_
    refine Ops.quiet (Qt.move rfl) rfl ?_
    refine Ops.quiet (Qt.nilCheck rfl) rfl ?_
    refine Ops.quiet (Qt.fieldAddr rfl (tk rfl) rfl) rfl ?_
    refine Ops.eff (Ef.store rfl rfl (tk rfl) rfl rfl (by repeat (first | exact ones_nil | refine ones_cons rfl ?_)) (by repeat (first | exact Upd.head | apply Upd.tail)) (by rfl)) rfl ?_
    rintro _ _ rfl
    refine Ops.nil ?_
    have e2 : endC code (c.codes.take k) ++ c.codes.drop k = endC code c.codes := by rw [List.take_of_length_le (by omega), List.drop_of_length_le (by omega), List.append_nil]
    refine H.conv (fun w hw => refc_mk (c.fin code) (a := a) (fun e => Bool.noConfusion e) (by rw [e2] at hw; exact hw)) (H.ends_n rfl (ResAll.nil) ?_)
    exact ⟨rfl, rfl⟩
theorem spec_rsay (w0 : World) (b : Nat) (a : Ra) (c : Cl) (s : Bs) (fr : List SProp) (ho : c.out.length ≤ 1000000) (hs : s.length ≤ 4611686018427387904) :
    Spec Tryd.prog w0 50 [ptr b, str s] (refc b a c :: fr) (fun v cs' => v = unit ∧ cs' = refc b a (c.say s) :: fr) := by
  refine Spec.of_body Tryd.func50 rfl Tryd.ntmps50 rfl ?_
  refine H.open_refc fun st cd wA wn wc sA sn sc cA cn cc hsc ⟨wl1, wl2, wl3⟩ ⟨sl1, sl2, sl3⟩ ⟨cl1, cl2, cl3⟩ => ?_
  refine H.region ?_
  refine Ops.quiet (Qt.move rfl) rfl ?_
  refine Ops.quiet (Qt.move rfl) rfl ?_
  refine Ops.quiet (Qt.nilCheck rfl) rfl ?_
  refine Ops.quiet (Qt.fieldAddr rfl (tk rfl) rfl) rfl ?_
  refine Ops.quiet (Qt.load rfl (tk rfl) rfl (by repeat (first | exact List.Mem.head _ | apply List.Mem.tail)) (by rfl)) rfl ?_
  refine Ops.quiet (Qt.move rfl) rfl ?_
  refine Ops.quiet (Qt.cat rfl rfl (by (try simp only [List.length_append, List.length_cons, List.length_nil]); omega)) rfl ?_
  refine Ops.eff (Ef.buildSlice (tk rfl) (tk rfl) rfl (zk rfl) rfl rfl rfl (by repeat (first | exact ones_nil | refine ones_cons rfl ?_))) rfl ?_
  rintro _ _ ⟨A11, c11, rfl, rfl⟩
  refine Ops.eff (Ef.append1 rfl rfl (tk rfl) (tk rfl) rfl (zk rfl) (by repeat (first | assumption | exact Reads.of_head | apply Reads.tail)) (by intro _ _; repeat (first | exact Upd.head | apply Upd.tail)) (fun _ => rfl) (by dsimp only; omega) (by simp only [maxLen]; omega)) rfl ?_
  rintro _ _ ⟨A12, c12, rfl, rfl⟩
  refine Ops.quiet (Qt.nilCheck rfl) rfl ?_
  refine Ops.quiet (Qt.fieldAddr rfl (tk rfl) rfl) rfl ?_
  refine Ops.eff (Ef.store rfl rfl (tk rfl) rfl rfl (by repeat (first | exact ones_nil | refine ones_cons rfl ?_)) (by repeat (first | exact Upd.head | apply Upd.tail)) (by rfl)) rfl ?_
  rintro _ _ rfl
  refine Ops.nil ?_
  refine H.conv (fun w hw => refc_mk (c.say s) (a := a) hsc hw.tail) (H.ends_n rfl (ResAll.nil) ?_)
  exact ⟨rfl, rfl⟩
theorem spec_rlost (w0 : World) (b : Nat) (a : Ra) (c : Cl) (fr : List SProp) :
    Spec Tryd.prog w0 13 [ptr b] (refc b a c :: fr) (fun v cs' => v = unit ∧ cs' = refc b a c.lost :: fr) := by
  refine Spec.of_body Tryd.func13 rfl Tryd.ntmps13 rfl ?_
  refine H.open_refc fun st cd wA wn wc sA sn sc cA cn cc hsc ⟨wl1, wl2, wl3⟩ ⟨sl1, sl2, sl3⟩ ⟨cl1, cl2, cl3⟩ => ?_
  refine H.seq ?_
  refine H.region ?_
  refine Ops.quiet (Qt.move rfl) rfl ?_
  refine Ops.quiet (Qt.nilCheck rfl) rfl ?_
  refine Ops.quiet (Qt.fieldAddr rfl (tk rfl) rfl) rfl ?_
  refine Ops.quiet (Qt.load rfl (tk rfl) rfl (by repeat (first | exact List.Mem.head _ | apply List.Mem.tail)) (by rfl)) rfl ?_
  refine Ops.quiet (Qt.not rfl) rfl ?_
  refine Ops.nil ?_
  refine H.then_normal ?_
  refine H.cond rfl (fun h6 => ?_) (fun h6 => ?_)
  · try simp only [decide_eq_true_eq, decide_eq_false_iff_not, beq_iff_eq, beq_eq_false_iff_ne, bne_iff_ne, ne_eq, Bool.not_eq_true', Bool.not_eq_false', bne_eq_false_iff_eq, Bool.not_eq_eq_eq_not, Bool.not_true, Bool.not_false] at h6
    refine H.seq ?_
    refine H.region ?_
    refine Ops.quiet (Qt.move rfl) rfl ?_
    refine Ops.quiet (Qt.nilCheck rfl) rfl ?_
    refine Ops.quiet (Qt.fieldAddr rfl (tk rfl) rfl) rfl ?_
    refine Ops.eff (Ef.store rfl rfl (tk rfl) rfl rfl (by repeat (first | exact ones_nil | refine ones_cons rfl ?_)) (by repeat (first | exact Upd.head | apply Upd.tail)) (by rfl)) rfl ?_
    rintro _ _ rfl
    refine Ops.nil ?_
    refine H.then_normal ?_
    refine H.conv (fun w hw => refc_mk { c with out := [] } (a := a) hsc (Own.upd (.tail (.tail .head)) hw fun r h => h.tail.zero_osl _ none)) ?_
    refine H.region ?_
    refine Ops.quiet (Qt.move rfl) rfl ?_
    refine Ops.eff (Ef.call (fok fab_all rfl Tryd.func25 rfl) rfl (spec_rend w0 b a { c with out := [] } 421 fr)) rfl ?_
    rintro _ _ ⟨rfl, rfl⟩
    refine Ops.nil ?_
    refine (H.ends_n rfl (ResAll.nil) ?_)
    refine ⟨rfl, ?_⟩
    unfold Cl.lost
    rw [h6]; rfl
  · try simp only [decide_eq_true_eq, decide_eq_false_iff_not, beq_iff_eq, beq_eq_false_iff_ne, bne_iff_ne, ne_eq, Bool.not_eq_true', Bool.not_eq_false', bne_eq_false_iff_eq, Bool.not_eq_eq_eq_not, Bool.not_true, Bool.not_false] at h6
    refine H.skip ?_
    refine H.conv (fun w hw => refc_mk c (a := a) hsc hw) (H.ends_n rfl (ResAll.nil) ?_)
    refine ⟨rfl, ?_⟩
    unfold Cl.lost
    rw [h6]; rfl
theorem stepOf_cases {c : Cl} {st : Int} (h : st = stepOf c) (h0 : 0 ≤ c.state) (h5 : c.state ≤ 5) : (c.state = 3 ∧ st = 3 + c.at_) ∨ (c.state = 4 ∧ st = -1) ∨ (c.state = 5 ∧ st = -2) ∨ (c.state ≤ 2 ∧ st = c.state) := by
  unfold stepOf at h
  split at h
  · exact .inl ⟨by assumption, h⟩
  split at h
  · exact .inr (.inl ⟨by assumption, h⟩)
  split at h
  · exact .inr (.inr (.inl ⟨by assumption, h⟩))
  · exact .inr (.inr (.inr ⟨by omega, h⟩))
theorem codes_contains {l : List Int} {k : Nat} (h : k < l.length) (h0 : l.getD k 0 = 0) : l.contains 0 = true := by
  have : l.getD k 0 ∈ l := by rw [List.getD_eq_getElem?_getD, List.getElem?_eq_getElem h]; simp
  rw [h0] at this
  exact List.contains_iff_mem.2 this
theorem codes_not {l : List Int} (h : ∀ i, i < l.length → l.getD i 0 ≠ 0) : l.contains 0 = false := by
  rw [Bool.eq_false_iff]
  intro hc
  obtain ⟨i, hi, he⟩ := List.getElem_of_mem (List.contains_iff_mem.1 hc)
  exact h i hi (by rw [List.getD_eq_getElem?_getD, List.getElem?_eq_getElem hi]; simpa using he)
theorem Cl.t1_more (c : Cl) (code : Int) : (c.t1 code).wait = c.wait ∧ (c.t1 code).rcode = c.rcode ∧ (c.t1 code).rlines = c.rlines ∧ (c.t1 code).over = c.over := by
  unfold Cl.t1
  split <;> simp
theorem spec_rtake (w0 : World) (b : Nat) (a : Ra) (c : Cl) (code : Int) (body : List Bs) (fr : List SProp) (hI : Inv c) (hov : c.over = false) (ho : c.out.length ≤ 1000000)
    (ht : Reads w0 fr a.tA a.tn a.tc (c.targets.map str)) (hb : Reads w0 fr a.bA a.bn a.bc (body.map str)) (hbd : c.body = stuffB body ++ [46, 13, 10]) (hbs : sizeL body + body.length ≤ 4611686018427387904) :
    Spec Tryd.prog w0 32 [ptr b, num code] (refc b a c :: fr) (fun v cs' => v = unit ∧ cs' = refc b a (c.take code) :: fr) := by
  have hok := hI.ok
  have ht0 := hI.t0 hov
  have hs5 := hI.s5 hov
  have ha3 := hI.at3 hov
  obtain ⟨hc1, hc2, hc3, hc4, hc5, hc6, hc7, hc8, hc9, hc10⟩ := hI.ok
  have hsm : ∀ k, k < c.targets.length → Sm (c.targets.getD k []) := fun k hk => hc4 _ (by rw [List.getD_eq_getElem?_getD, List.getElem?_eq_getElem hk]; simp)
  refine Spec.of_body Tryd.func32 rfl Tryd.ntmps32 rfl ?_
  refine H.open_refc fun st cd wA wn wc sA sn sc cA cn cc hsc ⟨wl1, wl2, wl3⟩ ⟨sl1, sl2, sl3⟩ ⟨cl1, cl2, cl3⟩ => ?_
  obtain ⟨hst, hcd⟩ := hsc hov
  refine H.fact (fun w hw => (ht.tail.tail.tail.tail w hw).facts) fun ⟨htl, htc, htm, htn⟩ => ?_
  simp only [List.length_map] at htl
  have hstc := stepOf_cases hst hc7 hs5
  refine H.seq ?_
  refine H.region ?_
  refine Ops.quiet (Qt.move rfl) rfl ?_
  refine Ops.quiet (Qt.nilCheck rfl) rfl ?_
  refine Ops.quiet (Qt.fieldAddr rfl (tk rfl) rfl) rfl ?_
  refine Ops.quiet (Qt.load rfl (tk rfl) rfl (by repeat (first | exact List.Mem.head _ | apply List.Mem.tail)) (by rfl)) rfl ?_
  refine Ops.quiet (Qt.len_sl (ats := #[]) rfl (tk rfl)) rfl ?_
  refine Ops.quiet (Qt.assign rfl) rfl ?_
  refine Ops.nil ?_
  refine H.then_normal ?_
  refine H.seq ?_
  refine H.seq ?_
  refine H.region ?_
  refine Ops.quiet (Qt.move rfl) rfl ?_
  refine Ops.quiet (Qt.nilCheck rfl) rfl ?_
  refine Ops.quiet (Qt.fieldAddr rfl (tk rfl) rfl) rfl ?_
  refine Ops.quiet (Qt.load rfl (tk rfl) rfl (by repeat (first | exact List.Mem.head _ | apply List.Mem.tail)) (by rfl)) rfl ?_
  refine Ops.quiet (Qt.geq rfl rfl) rfl ?_
  refine Ops.nil ?_
  refine H.then_normal ?_
  refine H.cond rfl (fun h17 => ?_) (fun h17 => ?_)
  · try simp only [decide_eq_true_eq, decide_eq_false_iff_not, beq_iff_eq, beq_eq_false_iff_ne, bne_iff_ne, ne_eq, Bool.not_eq_true', Bool.not_eq_false', bne_eq_false_iff_eq, Bool.not_eq_eq_eq_not, Bool.not_true, Bool.not_false] at h17
    have hs3 : c.state = 3 := by omega
    obtain rfl : st = 3 + c.at_ := by omega
    have hat := ha3 (by omega)
    obtain ⟨e1, e2, e3, e4, e5, e6, e7, e8⟩ := c.t1_same code
    obtain ⟨m1, m2, m3, m4⟩ := c.t1_more code
    have hcd1 : cd = codeOf (c.t1 code) := by rw [hcd]; unfold codeOf; rw [m2, m3]
    have hsm1 := hsm c.at_.toNat (by omega)
    have htk : c.take code = (c.t1 code).t2 := by unfold Cl.take; rw [if_pos hs3]; rfl
    refine H.seq ?_
    refine H.region ?_
    refine Ops.quiet (Qt.move rfl) rfl ?_
    refine Ops.quiet (Qt.nilCheck rfl) rfl ?_
    refine Ops.quiet (Qt.fieldAddr rfl (tk rfl) rfl) rfl ?_
    refine Ops.quiet (Qt.load rfl (tk rfl) rfl (by repeat (first | exact List.Mem.head _ | apply List.Mem.tail)) (by rfl)) rfl ?_
    refine Ops.quiet (Qt.sub64 rfl rfl (by omega) (by omega)) rfl ?_
    refine Ops.quiet (Qt.assign rfl) rfl ?_
    refine Ops.nil ?_
    refine H.then_normal ?_
    refine H.seq ?_
    refine H.seq ?_
    rw [show (3 : Int) + c.at_ - 3 = c.at_ by omega]
    refine H.region ?_
    refine Ops.quiet (Qt.move rfl) rfl ?_
    refine Ops.quiet (Qt.neq rfl rfl) rfl ?_
    refine Ops.quiet (Qt.move rfl) rfl ?_
    refine Ops.guard rfl rfl rfl rfl (fun g25 => ?_) (fun g25 => ?_)
    · have g25' := g25
      try simp only [decide_eq_true_eq, decide_eq_false_iff_not, beq_iff_eq, beq_eq_false_iff_ne, bne_iff_ne, ne_eq, Bool.not_eq_true', Bool.not_eq_false', bne_eq_false_iff_eq, Bool.not_eq_eq_eq_not, Bool.not_true, Bool.not_false] at g25'
      refine Ops.quiet (Qt.move rfl) rfl ?_
      refine Ops.guard_yes rfl rfl rfl rfl g25 ?_
      refine Ops.quiet (Qt.neq rfl rfl) rfl ?_
      refine Ops.quiet (Qt.pick_t rfl rfl g25) rfl ?_
      refine Ops.nil ?_
      refine H.then_normal ?_
      refine H.cond rfl (fun h28 => ?_) (fun h28 => ?_)
      · try simp only [decide_eq_true_eq, decide_eq_false_iff_not, beq_iff_eq, beq_eq_false_iff_ne, bne_iff_ne, ne_eq, Bool.not_eq_true', Bool.not_eq_false', bne_eq_false_iff_eq, Bool.not_eq_eq_eq_not, Bool.not_true, Bool.not_false] at h28
        refine H.region ?_
        refine Ops.quiet (Qt.move rfl) rfl ?_
        refine Ops.quiet (Qt.nilCheck rfl) rfl ?_
        refine Ops.quiet (Qt.fieldAddr rfl (tk rfl) rfl) rfl ?_
        refine Ops.quiet (Qt.load rfl (tk rfl) rfl (by repeat (first | exact List.Mem.head _ | apply List.Mem.tail)) (by rfl)) rfl ?_
        refine Ops.quiet (Qt.move rfl) rfl ?_
        refine Ops.quiet (Qt.move rfl) rfl ?_
        refine Ops.quiet (Qt.indexAddr rfl rfl (tk rfl) (tk rfl) rfl (by repeat (first | assumption | exact Reads.of_head | apply Reads.tail)) (by omega) (by omega)) rfl ?_
        refine Ops.eff (Ef.store_map rfl rfl (tk rfl) rfl (fun _ => rfl) (by repeat (first | exact Upd.head | apply Upd.tail)) (by omega)) rfl ?_
        rintro _ _ rfl
        refine Ops.nil ?_
        refine H.then_normal ?_
        refine H.seq ?_
        refine H.seq ?_
        have hd : (c.t1 code).codes = c.codes.set c.at_.toNat code := by unfold Cl.t1; rw [if_pos ⟨g25', h28⟩]
        rw [← hd]
        refine H.region ?_
        refine Ops.quiet (Qt.move rfl) rfl ?_
        refine Ops.quiet (Qt.add64 rfl rfl (by omega) (by omega)) rfl ?_
        refine Ops.quiet (Qt.move rfl) rfl ?_
        refine Ops.quiet (Qt.lss rfl rfl) rfl ?_
        refine Ops.nil ?_
        refine H.then_normal ?_
        refine H.cond rfl (fun h39 => ?_) (fun h39 => ?_)
        · try simp only [decide_eq_true_eq, decide_eq_false_iff_not, beq_iff_eq, beq_eq_false_iff_ne, bne_iff_ne, ne_eq, Bool.not_eq_true', Bool.not_eq_false', bne_eq_false_iff_eq, Bool.not_eq_eq_eq_not, Bool.not_true, Bool.not_false] at h39
          have hsm2 := hsm (c.at_ + 1).toNat (by omega)
          refine H.seq ?_
          refine H.region ?_
          refine Ops.quiet (Qt.move rfl) rfl ?_
          refine Ops.quiet (Qt.nilCheck rfl) rfl ?_
          refine Ops.quiet (Qt.fieldAddr rfl (tk rfl) rfl) rfl ?_
          refine Ops.quiet (Qt.load rfl (tk rfl) rfl (by repeat (first | exact List.Mem.head _ | apply List.Mem.tail)) (by rfl)) rfl ?_
          refine Ops.quiet (Qt.add64 rfl rfl (by omega) (by omega)) rfl ?_
          refine Ops.quiet (Qt.nilCheck rfl) rfl ?_
          refine Ops.quiet (Qt.fieldAddr rfl (tk rfl) rfl) rfl ?_
          refine Ops.eff (Ef.store rfl rfl (tk rfl) rfl rfl (by repeat (first | exact ones_nil | refine ones_cons rfl ?_)) (by repeat (first | exact Upd.head | apply Upd.tail)) (by rfl)) rfl ?_
          rintro _ _ rfl
          refine Ops.nil ?_
          refine H.then_normal ?_
          refine H.seq ?_
          refine H.region ?_
          refine Ops.quiet (Qt.move rfl) rfl ?_
          refine Ops.quiet (Qt.move rfl) rfl ?_
          refine Ops.quiet (Qt.nilCheck rfl) rfl ?_
          refine Ops.quiet (Qt.fieldAddr rfl (tk rfl) rfl) rfl ?_
          refine Ops.quiet (Qt.load rfl (tk rfl) rfl (by repeat (first | exact List.Mem.head _ | apply List.Mem.tail)) (by rfl)) rfl ?_
          refine Ops.quiet (Qt.move rfl) rfl ?_
          refine Ops.quiet (Qt.add64 rfl rfl (by omega) (by omega)) rfl ?_
          refine Ops.quiet (Qt.indexAddr rfl rfl (tk rfl) (tk rfl) rfl (by repeat (first | assumption | exact Reads.of_head | apply Reads.tail)) (by omega) (by omega)) rfl ?_
          refine Ops.quiet (Qt.load_map ([] : List UInt8) rfl (tk rfl) rfl (by repeat (first | assumption | exact Reads.of_head | apply Reads.tail)) (by omega)) rfl ?_
          refine Ops.quiet (Qt.cat rfl rfl (by (try simp only [List.length_append, List.length_cons, List.length_nil]); omega)) rfl ?_
          refine Ops.quiet (Qt.cat rfl rfl (by (try simp only [List.length_append, List.length_cons, List.length_nil]); omega)) rfl ?_
          refine H.conv (fun w hw => refc_mk (c.t1 code) (a := a) (b := b) (st := 3 + c.at_ + 1) (cd := cd) (wA := wA) (wn := wn) (wc := wc) (sA := sA) (sn := sn) (sc := sc) (cA := cA) (cn := cn) (cc := cc) (fun _ => ⟨by unfold stepOf; rw [e6, e7, if_pos hs3]; omega, hcd1⟩) (by rw [e1, e2, e5, m1, m4]; exact hw)) ?_
          refine Ops.eff (Ef.call (fok fab_all rfl Tryd.func50 rfl) rfl (spec_rsay w0 b a (c.t1 code) _ fr (by rw [e5]; exact ho) (by (try simp only [List.length_append, List.length_cons, List.length_nil]); omega))) rfl ?_
          rintro _ _ ⟨rfl, rfl⟩
          refine Ops.nil ?_
          refine H.then_normal ?_
          refine H.ret ?_
          refine H.then_ret ?_
          refine H.then_ret ?_
          refine (H.ends rfl (ResAll.nil) ?_)
          refine ⟨rfl, ?_⟩
          rw [htk]
          unfold Cl.t2
          rw [if_pos (by rw [e7, e3]; omega), e3, e7]
        · try simp only [decide_eq_true_eq, decide_eq_false_iff_not, beq_iff_eq, beq_eq_false_iff_ne, bne_iff_ne, ne_eq, Bool.not_eq_true', Bool.not_eq_false', bne_eq_false_iff_eq, Bool.not_eq_eq_eq_not, Bool.not_true, Bool.not_false] at h39
          refine H.skip ?_
          refine H.then_normal ?_
          refine H.seq ?_
          refine H.seq ?_
          refine H.region ?_
          refine Ops.quiet (Qt.assign rfl) rfl ?_
          refine Ops.nil ?_
          refine H.then_normal ?_
          refine H.block ?_
          obtain ⟨cl, hcl⟩ : ∃ cl, cl = (c.t1 code).codes := ⟨_, rfl⟩
          rw [← hcl]
          have hcl2 : cl.length = cn := by rw [hcl, e8]; exact cl1
          refine H.loop (X := Nat) (fun j => [(0, ptr b), (4, num a.tn), (6, num j)]) (fun j => blk b [str c.host, str c.frm, .slice a.tA a.tn a.tc, .slice a.bA a.bn a.bc, .slice wA wn wc, num cd, .slice sA sn sc, num (3 + c.at_), .slice cA cn cc, bol c.over] 33 :: osl 5 wA wn wc (c.wait.map u8v) :: osl 9 sA sn sc (c.out.map str) :: osl 3 cA cn cc (cl.map num) :: fr) (fun j => j ≤ a.tn ∧ ∀ i, i < j → cl.getD i 0 ≠ 0) (fun j => a.tn - j) 0 ⟨Nat.zero_le _, fun i h => absurd h (Nat.not_lt_zero _)⟩ (by repeat (first | exact trivial | refine ⟨rfl, ?_⟩)) (fun w hw => hw) ?_
          intro j ⟨hj, hnz⟩
          refine H.seq ?_
          refine H.seq ?_
          refine H.region ?_
          refine Ops.quiet (Qt.move rfl) rfl ?_
          refine Ops.quiet (Qt.move rfl) rfl ?_
          refine Ops.quiet (Qt.lss rfl rfl) rfl ?_
          refine Ops.nil ?_
          refine H.then_normal ?_
          refine H.cond rfl (fun h61 => ?_) (fun h61 => ?_)
          · try simp only [decide_eq_true_eq, decide_eq_false_iff_not, beq_iff_eq, beq_eq_false_iff_ne, bne_iff_ne, ne_eq, Bool.not_eq_true', Bool.not_eq_false', bne_eq_false_iff_eq, Bool.not_eq_eq_eq_not, Bool.not_true, Bool.not_false] at h61
            refine H.skip ?_
            refine H.then_normal ?_
            refine H.seq ?_
            refine H.block ?_
            refine H.seq ?_
            refine H.region ?_
            refine Ops.quiet (Qt.move rfl) rfl ?_
            refine Ops.quiet (Qt.nilCheck rfl) rfl ?_
            refine Ops.quiet (Qt.fieldAddr rfl (tk rfl) rfl) rfl ?_
            refine Ops.quiet (Qt.load rfl (tk rfl) rfl (by repeat (first | exact List.Mem.head _ | apply List.Mem.tail)) (by rfl)) rfl ?_
            refine Ops.quiet (Qt.move rfl) rfl ?_
            refine Ops.quiet (Qt.indexAddr rfl rfl (tk rfl) (tk rfl) rfl (by repeat (first | assumption | exact Reads.of_head | apply Reads.tail)) (by omega) (by omega)) rfl ?_
            refine Ops.quiet (Qt.load_map (0 : Int) rfl (tk rfl) rfl (by repeat (first | assumption | exact Reads.of_head | apply Reads.tail)) (by omega)) rfl ?_
            refine Ops.quiet (Qt.eql rfl rfl) rfl ?_
            refine Ops.nil ?_
            refine H.then_normal ?_
            refine H.cond rfl (fun h71 => ?_) (fun h71 => ?_)
            · try simp only [decide_eq_true_eq, decide_eq_false_iff_not, beq_iff_eq, beq_eq_false_iff_ne, bne_iff_ne, ne_eq, Bool.not_eq_true', Bool.not_eq_false', bne_eq_false_iff_eq, Bool.not_eq_eq_eq_not, Bool.not_true, Bool.not_false] at h71
              refine H.seq ?_
              refine H.region ?_
              refine Ops.quiet (Qt.move rfl) rfl ?_
              refine Ops.quiet (Qt.nilCheck rfl) rfl ?_
              refine Ops.quiet (Qt.fieldAddr rfl (tk rfl) rfl) rfl ?_
              refine Ops.eff (Ef.store rfl rfl (tk rfl) rfl rfl (by repeat (first | exact ones_nil | refine ones_cons rfl ?_)) (by repeat (first | exact Upd.head | apply Upd.tail)) (by rfl)) rfl ?_
              rintro _ _ rfl
              refine Ops.nil ?_
              refine H.then_normal ?_
              refine H.seq ?_
              refine H.region ?_
              refine Ops.quiet (Qt.move rfl) rfl ?_
              refine H.conv (fun w hw => refc_mk { c.t1 code with state := 4 } (a := a) (b := b) (st := -1) (cd := cd) (wA := wA) (wn := wn) (wc := wc) (sA := sA) (sn := sn) (sc := sc) (cA := cA) (cn := cn) (cc := cc) (fun _ => ⟨rfl, hcd1⟩) (by rw [← hcl]; show Own w0 w (blk b [str (c.t1 code).host, str (c.t1 code).frm, _, _, _, _, _, _, _, bol (c.t1 code).over] _ :: osl _ _ _ _ ((c.t1 code).wait.map u8v) :: osl _ _ _ _ ((c.t1 code).out.map str) :: _ :: fr); rw [e1, e2, e5, m1, m4]; exact hw)) ?_
              refine Ops.eff (Ef.call (fok fab_all rfl Tryd.func50 rfl) rfl (spec_rsay w0 b a { c.t1 code with state := 4 } [68, 65, 84, 65] fr (by rw [← e5] at ho; exact ho) (by decide))) rfl ?_
              rintro _ _ ⟨rfl, rfl⟩
              refine Ops.nil ?_
              refine H.then_normal ?_
              refine H.ret ?_
              refine H.blk_ret ?_
              refine H.then_ret ?_
              refine H.then_ret ?_
              refine H.blk_ret ?_
              refine H.then_ret ?_
              refine H.then_ret ?_
              have hn : (c.t1 code).next = Cl.say { c.t1 code with state := 4 } [68, 65, 84, 65] := by unfold Cl.next; rw [e6, hs3]; rfl
              refine (H.ends rfl (ResAll.nil) ?_)
              refine ⟨rfl, ?_⟩
              rw [htk]
              unfold Cl.t2
              rw [if_neg (by rw [e7, e3]; omega), if_pos (by rw [← hcl]; exact codes_contains (by omega) h71), hn]
            · try simp only [decide_eq_true_eq, decide_eq_false_iff_not, beq_iff_eq, beq_eq_false_iff_ne, bne_iff_ne, ne_eq, Bool.not_eq_true', Bool.not_eq_false', bne_eq_false_iff_eq, Bool.not_eq_eq_eq_not, Bool.not_true, Bool.not_false] at h71
              refine H.skip ?_
              refine H.blk_normal ?_
              refine H.then_normal ?_
              refine H.region ?_
              refine Ops.quiet (Qt.move rfl) rfl ?_
              refine Ops.quiet (Qt.add64 rfl rfl (by omega) (by omega)) rfl ?_
              refine Ops.quiet (Qt.assign rfl) rfl ?_
              refine Ops.nil ?_
              refine H.then_normal ?_
              refine H.round (j + 1) ⟨by omega, fun i hi => ?_⟩ (by omega) (by repeat (first | exact trivial | refine ⟨rfl, ?_⟩)) (fun w hw => hw)
              rcases Nat.lt_succ_iff_lt_or_eq.1 hi with hi | rfl
              · exact hnz i hi
              · exact h71
          · try simp only [decide_eq_true_eq, decide_eq_false_iff_not, beq_iff_eq, beq_eq_false_iff_ne, bne_iff_ne, ne_eq, Bool.not_eq_true', Bool.not_eq_false', bne_eq_false_iff_eq, Bool.not_eq_eq_eq_not, Bool.not_true, Bool.not_false] at h61
            refine H.exit ?_
            refine H.then_exit ?_
            refine H.then_exit ?_
            refine H.blk_hit ?_
            refine H.then_normal ?_
            refine H.seq ?_
            refine H.region ?_
            refine Ops.quiet (Qt.move rfl) rfl ?_
            refine H.conv (fun w hw => refc_mk { c with codes := (c.t1 code).codes } (a := a) (fun _ => ⟨hst, hcd⟩) (by rw [← hcl]; exact hw)) ?_
            refine Ops.eff (Ef.call (fok fab_all rfl Tryd.func25 rfl) rfl (spec_rend w0 b a { c with codes := (c.t1 code).codes } 0 fr)) rfl ?_
            rintro _ _ ⟨rfl, rfl⟩
            refine Ops.nil ?_
            refine H.then_normal ?_
            refine H.seq ?_
            refine H.region ?_
            refine Ops.quiet (Qt.move rfl) rfl ?_
            refine Ops.eff (Ef.call (fok fab_all rfl Tryd.func50 rfl) rfl (spec_rsay w0 b a (Cl.fin { c with codes := (c.t1 code).codes } 0) [81, 85, 73, 84] fr ho (by decide))) rfl ?_
            rintro _ _ ⟨rfl, rfl⟩
            refine Ops.nil ?_
            refine H.then_normal ?_
            refine H.ret ?_
            refine H.then_ret ?_
            have hcn : (c.t1 code).codes.contains 0 = false := by rw [← hcl]; exact codes_not (fun i hi => hnz i (by omega))
            have htk2 : c.take code = (c.t1 code).quit 0 := by
              rw [htk]
              unfold Cl.t2
              rw [if_neg (by rw [e7, e3]; omega), if_neg (by rw [hcn]; simp)]
            rw [htk2]
            refine H.conv (fun w hw => refc_over (X := Cl.say (Cl.fin { c with codes := (c.t1 code).codes } 0) [81, 85, 73, 84]) (Y := (c.t1 code).quit 0) e1.symm e2.symm m1.symm (by show c.out ++ _ = (c.t1 code).out ++ _; rw [e5]) rfl rfl rfl hw) (H.ends rfl (ResAll.nil) ?_)
            exact ⟨rfl, rfl⟩
      · try simp only [decide_eq_true_eq, decide_eq_false_iff_not, beq_iff_eq, beq_eq_false_iff_ne, bne_iff_ne, ne_eq, Bool.not_eq_true', Bool.not_eq_false', bne_eq_false_iff_eq, Bool.not_eq_eq_eq_not, Bool.not_true, Bool.not_false] at h28
        refine H.skip ?_
        refine H.then_normal ?_
        refine H.seq ?_
        refine H.seq ?_
        have hd : (c.t1 code).codes = c.codes := by unfold Cl.t1; rw [if_neg (fun h => h.2 h28)]
        rw [← hd]
        refine H.region ?_
        refine Ops.quiet (Qt.move rfl) rfl ?_
        refine Ops.quiet (Qt.add64 rfl rfl (by omega) (by omega)) rfl ?_
        refine Ops.quiet (Qt.move rfl) rfl ?_
        refine Ops.quiet (Qt.lss rfl rfl) rfl ?_
        refine Ops.nil ?_
        refine H.then_normal ?_
        refine H.cond rfl (fun h39 => ?_) (fun h39 => ?_)
        · try simp only [decide_eq_true_eq, decide_eq_false_iff_not, beq_iff_eq, beq_eq_false_iff_ne, bne_iff_ne, ne_eq, Bool.not_eq_true', Bool.not_eq_false', bne_eq_false_iff_eq, Bool.not_eq_eq_eq_not, Bool.not_true, Bool.not_false] at h39
          have hsm2 := hsm (c.at_ + 1).toNat (by omega)
          refine H.seq ?_
          refine H.region ?_
          refine Ops.quiet (Qt.move rfl) rfl ?_
          refine Ops.quiet (Qt.nilCheck rfl) rfl ?_
          refine Ops.quiet (Qt.fieldAddr rfl (tk rfl) rfl) rfl ?_
          refine Ops.quiet (Qt.load rfl (tk rfl) rfl (by repeat (first | exact List.Mem.head _ | apply List.Mem.tail)) (by rfl)) rfl ?_
          refine Ops.quiet (Qt.add64 rfl rfl (by omega) (by omega)) rfl ?_
          refine Ops.quiet (Qt.nilCheck rfl) rfl ?_
          refine Ops.quiet (Qt.fieldAddr rfl (tk rfl) rfl) rfl ?_
          refine Ops.eff (Ef.store rfl rfl (tk rfl) rfl rfl (by repeat (first | exact ones_nil | refine ones_cons rfl ?_)) (by repeat (first | exact Upd.head | apply Upd.tail)) (by rfl)) rfl ?_
          rintro _ _ rfl
          refine Ops.nil ?_
          refine H.then_normal ?_
          refine H.seq ?_
          refine H.region ?_
          refine Ops.quiet (Qt.move rfl) rfl ?_
          refine Ops.quiet (Qt.move rfl) rfl ?_
          refine Ops.quiet (Qt.nilCheck rfl) rfl ?_
          refine Ops.quiet (Qt.fieldAddr rfl (tk rfl) rfl) rfl ?_
          refine Ops.quiet (Qt.load rfl (tk rfl) rfl (by repeat (first | exact List.Mem.head _ | apply List.Mem.tail)) (by rfl)) rfl ?_
          refine Ops.quiet (Qt.move rfl) rfl ?_
          refine Ops.quiet (Qt.add64 rfl rfl (by omega) (by omega)) rfl ?_
          refine Ops.quiet (Qt.indexAddr rfl rfl (tk rfl) (tk rfl) rfl (by repeat (first | assumption | exact Reads.of_head | apply Reads.tail)) (by omega) (by omega)) rfl ?_
          refine Ops.quiet (Qt.load_map ([] : List UInt8) rfl (tk rfl) rfl (by repeat (first | assumption | exact Reads.of_head | apply Reads.tail)) (by omega)) rfl ?_
          refine Ops.quiet (Qt.cat rfl rfl (by (try simp only [List.length_append, List.length_cons, List.length_nil]); omega)) rfl ?_
          refine Ops.quiet (Qt.cat rfl rfl (by (try simp only [List.length_append, List.length_cons, List.length_nil]); omega)) rfl ?_
          refine H.conv (fun w hw => refc_mk (c.t1 code) (a := a) (b := b) (st := 3 + c.at_ + 1) (cd := cd) (wA := wA) (wn := wn) (wc := wc) (sA := sA) (sn := sn) (sc := sc) (cA := cA) (cn := cn) (cc := cc) (fun _ => ⟨by unfold stepOf; rw [e6, e7, if_pos hs3]; omega, hcd1⟩) (by rw [e1, e2, e5, m1, m4]; exact hw)) ?_
          refine Ops.eff (Ef.call (fok fab_all rfl Tryd.func50 rfl) rfl (spec_rsay w0 b a (c.t1 code) _ fr (by rw [e5]; exact ho) (by (try simp only [List.length_append, List.length_cons, List.length_nil]); omega))) rfl ?_
          rintro _ _ ⟨rfl, rfl⟩
          refine Ops.nil ?_
          refine H.then_normal ?_
          refine H.ret ?_
          refine H.then_ret ?_
          refine H.then_ret ?_
          refine (H.ends rfl (ResAll.nil) ?_)
          refine ⟨rfl, ?_⟩
          rw [htk]
          unfold Cl.t2
          rw [if_pos (by rw [e7, e3]; omega), e3, e7]
        · try simp only [decide_eq_true_eq, decide_eq_false_iff_not, beq_iff_eq, beq_eq_false_iff_ne, bne_iff_ne, ne_eq, Bool.not_eq_true', Bool.not_eq_false', bne_eq_false_iff_eq, Bool.not_eq_eq_eq_not, Bool.not_true, Bool.not_false] at h39
          refine H.skip ?_
          refine H.then_normal ?_
          refine H.seq ?_
          refine H.seq ?_
          refine H.region ?_
          refine Ops.quiet (Qt.assign rfl) rfl ?_
          refine Ops.nil ?_
          refine H.then_normal ?_
          refine H.block ?_
          obtain ⟨cl, hcl⟩ : ∃ cl, cl = (c.t1 code).codes := ⟨_, rfl⟩
          rw [← hcl]
          have hcl2 : cl.length = cn := by rw [hcl, e8]; exact cl1
          refine H.loop (X := Nat) (fun j => [(0, ptr b), (4, num a.tn), (6, num j)]) (fun j => blk b [str c.host, str c.frm, .slice a.tA a.tn a.tc, .slice a.bA a.bn a.bc, .slice wA wn wc, num cd, .slice sA sn sc, num (3 + c.at_), .slice cA cn cc, bol c.over] 33 :: osl 5 wA wn wc (c.wait.map u8v) :: osl 9 sA sn sc (c.out.map str) :: osl 3 cA cn cc (cl.map num) :: fr) (fun j => j ≤ a.tn ∧ ∀ i, i < j → cl.getD i 0 ≠ 0) (fun j => a.tn - j) 0 ⟨Nat.zero_le _, fun i h => absurd h (Nat.not_lt_zero _)⟩ (by repeat (first | exact trivial | refine ⟨rfl, ?_⟩)) (fun w hw => hw) ?_
          intro j ⟨hj, hnz⟩
          refine H.seq ?_
          refine H.seq ?_
          refine H.region ?_
          refine Ops.quiet (Qt.move rfl) rfl ?_
          refine Ops.quiet (Qt.move rfl) rfl ?_
          refine Ops.quiet (Qt.lss rfl rfl) rfl ?_
          refine Ops.nil ?_
          refine H.then_normal ?_
          refine H.cond rfl (fun h61 => ?_) (fun h61 => ?_)
          · try simp only [decide_eq_true_eq, decide_eq_false_iff_not, beq_iff_eq, beq_eq_false_iff_ne, bne_iff_ne, ne_eq, Bool.not_eq_true', Bool.not_eq_false', bne_eq_false_iff_eq, Bool.not_eq_eq_eq_not, Bool.not_true, Bool.not_false] at h61
            refine H.skip ?_
            refine H.then_normal ?_
            refine H.seq ?_
            refine H.block ?_
            refine H.seq ?_
            refine H.region ?_
            refine Ops.quiet (Qt.move rfl) rfl ?_
            refine Ops.quiet (Qt.nilCheck rfl) rfl ?_
            refine Ops.quiet (Qt.fieldAddr rfl (tk rfl) rfl) rfl ?_
            refine Ops.quiet (Qt.load rfl (tk rfl) rfl (by repeat (first | exact List.Mem.head _ | apply List.Mem.tail)) (by rfl)) rfl ?_
            refine Ops.quiet (Qt.move rfl) rfl ?_
            refine Ops.quiet (Qt.indexAddr rfl rfl (tk rfl) (tk rfl) rfl (by repeat (first | assumption | exact Reads.of_head | apply Reads.tail)) (by omega) (by omega)) rfl ?_
            refine Ops.quiet (Qt.load_map (0 : Int) rfl (tk rfl) rfl (by repeat (first | assumption | exact Reads.of_head | apply Reads.tail)) (by omega)) rfl ?_
            refine Ops.quiet (Qt.eql rfl rfl) rfl ?_
            refine Ops.nil ?_
            refine H.then_normal ?_
            refine H.cond rfl (fun h71 => ?_) (fun h71 => ?_)
            · try simp only [decide_eq_true_eq, decide_eq_false_iff_not, beq_iff_eq, beq_eq_false_iff_ne, bne_iff_ne, ne_eq, Bool.not_eq_true', Bool.not_eq_false', bne_eq_false_iff_eq, Bool.not_eq_eq_eq_not, Bool.not_true, Bool.not_false] at h71
              refine H.seq ?_
              refine H.region ?_
              refine Ops.quiet (Qt.move rfl) rfl ?_
              refine Ops.quiet (Qt.nilCheck rfl) rfl ?_
              refine Ops.quiet (Qt.fieldAddr rfl (tk rfl) rfl) rfl ?_
              refine Ops.eff (Ef.store rfl rfl (tk rfl) rfl rfl (by repeat (first | exact ones_nil | refine ones_cons rfl ?_)) (by repeat (first | exact Upd.head | apply Upd.tail)) (by rfl)) rfl ?_
              rintro _ _ rfl
              refine Ops.nil ?_
              refine H.then_normal ?_
              refine H.seq ?_
              refine H.region ?_
              refine Ops.quiet (Qt.move rfl) rfl ?_
              refine H.conv (fun w hw => refc_mk { c.t1 code with state := 4 } (a := a) (b := b) (st := -1) (cd := cd) (wA := wA) (wn := wn) (wc := wc) (sA := sA) (sn := sn) (sc := sc) (cA := cA) (cn := cn) (cc := cc) (fun _ => ⟨rfl, hcd1⟩) (by rw [← hcl]; show Own w0 w (blk b [str (c.t1 code).host, str (c.t1 code).frm, _, _, _, _, _, _, _, bol (c.t1 code).over] _ :: osl _ _ _ _ ((c.t1 code).wait.map u8v) :: osl _ _ _ _ ((c.t1 code).out.map str) :: _ :: fr); rw [e1, e2, e5, m1, m4]; exact hw)) ?_
              refine Ops.eff (Ef.call (fok fab_all rfl Tryd.func50 rfl) rfl (spec_rsay w0 b a { c.t1 code with state := 4 } [68, 65, 84, 65] fr (by rw [← e5] at ho; exact ho) (by decide))) rfl ?_
              rintro _ _ ⟨rfl, rfl⟩
              refine Ops.nil ?_
              refine H.then_normal ?_
              refine H.ret ?_
              refine H.blk_ret ?_
              refine H.then_ret ?_
              refine H.then_ret ?_
              refine H.blk_ret ?_
              refine H.then_ret ?_
              refine H.then_ret ?_
              have hn : (c.t1 code).next = Cl.say { c.t1 code with state := 4 } [68, 65, 84, 65] := by unfold Cl.next; rw [e6, hs3]; rfl
              refine (H.ends rfl (ResAll.nil) ?_)
              refine ⟨rfl, ?_⟩
              rw [htk]
              unfold Cl.t2
              rw [if_neg (by rw [e7, e3]; omega), if_pos (by rw [← hcl]; exact codes_contains (by omega) h71), hn]
            · try simp only [decide_eq_true_eq, decide_eq_false_iff_not, beq_iff_eq, beq_eq_false_iff_ne, bne_iff_ne, ne_eq, Bool.not_eq_true', Bool.not_eq_false', bne_eq_false_iff_eq, Bool.not_eq_eq_eq_not, Bool.not_true, Bool.not_false] at h71
              refine H.skip ?_
              refine H.blk_normal ?_
              refine H.then_normal ?_
              refine H.region ?_
              refine Ops.quiet (Qt.move rfl) rfl ?_
              refine Ops.quiet (Qt.add64 rfl rfl (by omega) (by omega)) rfl ?_
              refine Ops.quiet (Qt.assign rfl) rfl ?_
              refine Ops.nil ?_
              refine H.then_normal ?_
              refine H.round (j + 1) ⟨by omega, fun i hi => ?_⟩ (by omega) (by repeat (first | exact trivial | refine ⟨rfl, ?_⟩)) (fun w hw => hw)
              rcases Nat.lt_succ_iff_lt_or_eq.1 hi with hi | rfl
              · exact hnz i hi
              · exact h71
          · try simp only [decide_eq_true_eq, decide_eq_false_iff_not, beq_iff_eq, beq_eq_false_iff_ne, bne_iff_ne, ne_eq, Bool.not_eq_true', Bool.not_eq_false', bne_eq_false_iff_eq, Bool.not_eq_eq_eq_not, Bool.not_true, Bool.not_false] at h61
            refine H.exit ?_
            refine H.then_exit ?_
            refine H.then_exit ?_
            refine H.blk_hit ?_
            refine H.then_normal ?_
            refine H.seq ?_
            refine H.region ?_
            refine Ops.quiet (Qt.move rfl) rfl ?_
            refine H.conv (fun w hw => refc_mk { c with codes := (c.t1 code).codes } (a := a) (fun _ => ⟨hst, hcd⟩) (by rw [← hcl]; exact hw)) ?_
            refine Ops.eff (Ef.call (fok fab_all rfl Tryd.func25 rfl) rfl (spec_rend w0 b a { c with codes := (c.t1 code).codes } 0 fr)) rfl ?_
            rintro _ _ ⟨rfl, rfl⟩
            refine Ops.nil ?_
            refine H.then_normal ?_
            refine H.seq ?_
            refine H.region ?_
            refine Ops.quiet (Qt.move rfl) rfl ?_
            refine Ops.eff (Ef.call (fok fab_all rfl Tryd.func50 rfl) rfl (spec_rsay w0 b a (Cl.fin { c with codes := (c.t1 code).codes } 0) [81, 85, 73, 84] fr ho (by decide))) rfl ?_
            rintro _ _ ⟨rfl, rfl⟩
            refine Ops.nil ?_
            refine H.then_normal ?_
            refine H.ret ?_
            refine H.then_ret ?_
            have hcn : (c.t1 code).codes.contains 0 = false := by rw [← hcl]; exact codes_not (fun i hi => hnz i (by omega))
            have htk2 : c.take code = (c.t1 code).quit 0 := by
              rw [htk]
              unfold Cl.t2
              rw [if_neg (by rw [e7, e3]; omega), if_neg (by rw [hcn]; simp)]
            rw [htk2]
            refine H.conv (fun w hw => refc_over (X := Cl.say (Cl.fin { c with codes := (c.t1 code).codes } 0) [81, 85, 73, 84]) (Y := (c.t1 code).quit 0) e1.symm e2.symm m1.symm (by show c.out ++ _ = (c.t1 code).out ++ _; rw [e5]) rfl rfl rfl hw) (H.ends rfl (ResAll.nil) ?_)
            exact ⟨rfl, rfl⟩
    · have g25' := g25
      try simp only [decide_eq_true_eq, decide_eq_false_iff_not, beq_iff_eq, beq_eq_false_iff_ne, bne_iff_ne, ne_eq, Bool.not_eq_true', Bool.not_eq_false', bne_eq_false_iff_eq, Bool.not_eq_eq_eq_not, Bool.not_true, Bool.not_false] at g25'
      refine Ops.guard_no rfl rfl rfl rfl g25 ?_
      refine Ops.quiet (Qt.pick_f rfl rfl g25) rfl ?_
      refine Ops.nil ?_
      refine H.then_normal ?_
      refine H.cond_false rfl (by rfl) ?_
      refine H.skip ?_
      refine H.then_normal ?_
      refine H.seq ?_
      refine H.seq ?_
      have hd : (c.t1 code).codes = c.codes := by unfold Cl.t1; rw [if_neg (fun h => h.1 g25')]
      rw [← hd]
      refine H.region ?_
      refine Ops.quiet (Qt.move rfl) rfl ?_
      refine Ops.quiet (Qt.add64 rfl rfl (by omega) (by omega)) rfl ?_
      refine Ops.quiet (Qt.move rfl) rfl ?_
      refine Ops.quiet (Qt.lss rfl rfl) rfl ?_
      refine Ops.nil ?_
      refine H.then_normal ?_
      refine H.cond rfl (fun h39 => ?_) (fun h39 => ?_)
      · try simp only [decide_eq_true_eq, decide_eq_false_iff_not, beq_iff_eq, beq_eq_false_iff_ne, bne_iff_ne, ne_eq, Bool.not_eq_true', Bool.not_eq_false', bne_eq_false_iff_eq, Bool.not_eq_eq_eq_not, Bool.not_true, Bool.not_false] at h39
        have hsm2 := hsm (c.at_ + 1).toNat (by omega)
        refine H.seq ?_
        refine H.region ?_
        refine Ops.quiet (Qt.move rfl) rfl ?_
        refine Ops.quiet (Qt.nilCheck rfl) rfl ?_
        refine Ops.quiet (Qt.fieldAddr rfl (tk rfl) rfl) rfl ?_
        refine Ops.quiet (Qt.load rfl (tk rfl) rfl (by repeat (first | exact List.Mem.head _ | apply List.Mem.tail)) (by rfl)) rfl ?_
        refine Ops.quiet (Qt.add64 rfl rfl (by omega) (by omega)) rfl ?_
        refine Ops.quiet (Qt.nilCheck rfl) rfl ?_
        refine Ops.quiet (Qt.fieldAddr rfl (tk rfl) rfl) rfl ?_
        refine Ops.eff (Ef.store rfl rfl (tk rfl) rfl rfl (by repeat (first | exact ones_nil | refine ones_cons rfl ?_)) (by repeat (first | exact Upd.head | apply Upd.tail)) (by rfl)) rfl ?_
        rintro _ _ rfl
        refine Ops.nil ?_
        refine H.then_normal ?_
        refine H.seq ?_
        refine H.region ?_
        refine Ops.quiet (Qt.move rfl) rfl ?_
        refine Ops.quiet (Qt.move rfl) rfl ?_
        refine Ops.quiet (Qt.nilCheck rfl) rfl ?_
        refine Ops.quiet (Qt.fieldAddr rfl (tk rfl) rfl) rfl ?_
        refine Ops.quiet (Qt.load rfl (tk rfl) rfl (by repeat (first | exact List.Mem.head _ | apply List.Mem.tail)) (by rfl)) rfl ?_
        refine Ops.quiet (Qt.move rfl) rfl ?_
        refine Ops.quiet (Qt.add64 rfl rfl (by omega) (by omega)) rfl ?_
        refine Ops.quiet (Qt.indexAddr rfl rfl (tk rfl) (tk rfl) rfl (by repeat (first | assumption | exact Reads.of_head | apply Reads.tail)) (by omega) (by omega)) rfl ?_
        refine Ops.quiet (Qt.load_map ([] : List UInt8) rfl (tk rfl) rfl (by repeat (first | assumption | exact Reads.of_head | apply Reads.tail)) (by omega)) rfl ?_
        refine Ops.quiet (Qt.cat rfl rfl (by (try simp only [List.length_append, List.length_cons, List.length_nil]); omega)) rfl ?_
        refine Ops.quiet (Qt.cat rfl rfl (by (try simp only [List.length_append, List.length_cons, List.length_nil]); omega)) rfl ?_
        refine H.conv (fun w hw => refc_mk (c.t1 code) (a := a) (b := b) (st := 3 + c.at_ + 1) (cd := cd) (wA := wA) (wn := wn) (wc := wc) (sA := sA) (sn := sn) (sc := sc) (cA := cA) (cn := cn) (cc := cc) (fun _ => ⟨by unfold stepOf; rw [e6, e7, if_pos hs3]; omega, hcd1⟩) (by rw [e1, e2, e5, m1, m4]; exact hw)) ?_
        refine Ops.eff (Ef.call (fok fab_all rfl Tryd.func50 rfl) rfl (spec_rsay w0 b a (c.t1 code) _ fr (by rw [e5]; exact ho) (by (try simp only [List.length_append, List.length_cons, List.length_nil]); omega))) rfl ?_
        rintro _ _ ⟨rfl, rfl⟩
        refine Ops.nil ?_
        refine H.then_normal ?_
        refine H.ret ?_
        refine H.then_ret ?_
        refine H.then_ret ?_
        refine (H.ends rfl (ResAll.nil) ?_)
        refine ⟨rfl, ?_⟩
        rw [htk]
        unfold Cl.t2
        rw [if_pos (by rw [e7, e3]; omega), e3, e7]
      · try simp only [decide_eq_true_eq, decide_eq_false_iff_not, beq_iff_eq, beq_eq_false_iff_ne, bne_iff_ne, ne_eq, Bool.not_eq_true', Bool.not_eq_false', bne_eq_false_iff_eq, Bool.not_eq_eq_eq_not, Bool.not_true, Bool.not_false] at h39
        refine H.skip ?_
        refine H.then_normal ?_
        refine H.seq ?_
        refine H.seq ?_
        refine H.region ?_
        refine Ops.quiet (Qt.assign rfl) rfl ?_
        refine Ops.nil ?_
        refine H.then_normal ?_
        refine H.block ?_
        obtain ⟨cl, hcl⟩ : ∃ cl, cl = (c.t1 code).codes := ⟨_, rfl⟩
        rw [← hcl]
        have hcl2 : cl.length = cn := by rw [hcl, e8]; exact cl1
        refine H.loop (X := Nat) (fun j => [(0, ptr b), (4, num a.tn), (6, num j)]) (fun j => blk b [str c.host, str c.frm, .slice a.tA a.tn a.tc, .slice a.bA a.bn a.bc, .slice wA wn wc, num cd, .slice sA sn sc, num (3 + c.at_), .slice cA cn cc, bol c.over] 33 :: osl 5 wA wn wc (c.wait.map u8v) :: osl 9 sA sn sc (c.out.map str) :: osl 3 cA cn cc (cl.map num) :: fr) (fun j => j ≤ a.tn ∧ ∀ i, i < j → cl.getD i 0 ≠ 0) (fun j => a.tn - j) 0 ⟨Nat.zero_le _, fun i h => absurd h (Nat.not_lt_zero _)⟩ (by repeat (first | exact trivial | refine ⟨rfl, ?_⟩)) (fun w hw => hw) ?_
        intro j ⟨hj, hnz⟩
        refine H.seq ?_
        refine H.seq ?_
        refine H.region ?_
        refine Ops.quiet (Qt.move rfl) rfl ?_
        refine Ops.quiet (Qt.move rfl) rfl ?_
        refine Ops.quiet (Qt.lss rfl rfl) rfl ?_
        refine Ops.nil ?_
        refine H.then_normal ?_
        refine H.cond rfl (fun h61 => ?_) (fun h61 => ?_)
        · try simp only [decide_eq_true_eq, decide_eq_false_iff_not, beq_iff_eq, beq_eq_false_iff_ne, bne_iff_ne, ne_eq, Bool.not_eq_true', Bool.not_eq_false', bne_eq_false_iff_eq, Bool.not_eq_eq_eq_not, Bool.not_true, Bool.not_false] at h61
          refine H.skip ?_
          refine H.then_normal ?_
          refine H.seq ?_
          refine H.block ?_
          refine H.seq ?_
          refine H.region ?_
          refine Ops.quiet (Qt.move rfl) rfl ?_
          refine Ops.quiet (Qt.nilCheck rfl) rfl ?_
          refine Ops.quiet (Qt.fieldAddr rfl (tk rfl) rfl) rfl ?_
          refine Ops.quiet (Qt.load rfl (tk rfl) rfl (by repeat (first | exact List.Mem.head _ | apply List.Mem.tail)) (by rfl)) rfl ?_
          refine Ops.quiet (Qt.move rfl) rfl ?_
          refine Ops.quiet (Qt.indexAddr rfl rfl (tk rfl) (tk rfl) rfl (by repeat (first | assumption | exact Reads.of_head | apply Reads.tail)) (by omega) (by omega)) rfl ?_
          refine Ops.quiet (Qt.load_map (0 : Int) rfl (tk rfl) rfl (by repeat (first | assumption | exact Reads.of_head | apply Reads.tail)) (by omega)) rfl ?_
          refine Ops.quiet (Qt.eql rfl rfl) rfl ?_
          refine Ops.nil ?_
          refine H.then_normal ?_
          refine H.cond rfl (fun h71 => ?_) (fun h71 => ?_)
          · try simp only [decide_eq_true_eq, decide_eq_false_iff_not, beq_iff_eq, beq_eq_false_iff_ne, bne_iff_ne, ne_eq, Bool.not_eq_true', Bool.not_eq_false', bne_eq_false_iff_eq, Bool.not_eq_eq_eq_not, Bool.not_true, Bool.not_false] at h71
            refine H.seq ?_
            refine H.region ?_
            refine Ops.quiet (Qt.move rfl) rfl ?_
            refine Ops.quiet (Qt.nilCheck rfl) rfl ?_
            refine Ops.quiet (Qt.fieldAddr rfl (tk rfl) rfl) rfl ?_
            refine Ops.eff (Ef.store rfl rfl (tk rfl) rfl rfl (by repeat (first | exact ones_nil | refine ones_cons rfl ?_)) (by repeat (first | exact Upd.head | apply Upd.tail)) (by rfl)) rfl ?_
            rintro _ _ rfl
            refine Ops.nil ?_
            refine H.then_normal ?_
            refine H.seq ?_
            refine H.region ?_
            refine Ops.quiet (Qt.move rfl) rfl ?_
            refine H.conv (fun w hw => refc_mk { c.t1 code with state := 4 } (a := a) (b := b) (st := -1) (cd := cd) (wA := wA) (wn := wn) (wc := wc) (sA := sA) (sn := sn) (sc := sc) (cA := cA) (cn := cn) (cc := cc) (fun _ => ⟨rfl, hcd1⟩) (by rw [← hcl]; show Own w0 w (blk b [str (c.t1 code).host, str (c.t1 code).frm, _, _, _, _, _, _, _, bol (c.t1 code).over] _ :: osl _ _ _ _ ((c.t1 code).wait.map u8v) :: osl _ _ _ _ ((c.t1 code).out.map str) :: _ :: fr); rw [e1, e2, e5, m1, m4]; exact hw)) ?_
            refine Ops.eff (Ef.call (fok fab_all rfl Tryd.func50 rfl) rfl (spec_rsay w0 b a { c.t1 code with state := 4 } [68, 65, 84, 65] fr (by rw [← e5] at ho; exact ho) (by decide))) rfl ?_
            rintro _ _ ⟨rfl, rfl⟩
            refine Ops.nil ?_
            refine H.then_normal ?_
            refine H.ret ?_
            refine H.blk_ret ?_
            refine H.then_ret ?_
            refine H.then_ret ?_
            refine H.blk_ret ?_
            refine H.then_ret ?_
            refine H.then_ret ?_
            have hn : (c.t1 code).next = Cl.say { c.t1 code with state := 4 } [68, 65, 84, 65] := by unfold Cl.next; rw [e6, hs3]; rfl
            refine (H.ends rfl (ResAll.nil) ?_)
            refine ⟨rfl, ?_⟩
            rw [htk]
            unfold Cl.t2
            rw [if_neg (by rw [e7, e3]; omega), if_pos (by rw [← hcl]; exact codes_contains (by omega) h71), hn]
          · try simp only [decide_eq_true_eq, decide_eq_false_iff_not, beq_iff_eq, beq_eq_false_iff_ne, bne_iff_ne, ne_eq, Bool.not_eq_true', Bool.not_eq_false', bne_eq_false_iff_eq, Bool.not_eq_eq_eq_not, Bool.not_true, Bool.not_false] at h71
            refine H.skip ?_
            refine H.blk_normal ?_
            refine H.then_normal ?_
            refine H.region ?_
            refine Ops.quiet (Qt.move rfl) rfl ?_
            refine Ops.quiet (Qt.add64 rfl rfl (by omega) (by omega)) rfl ?_
            refine Ops.quiet (Qt.assign rfl) rfl ?_
            refine Ops.nil ?_
            refine H.then_normal ?_
            refine H.round (j + 1) ⟨by omega, fun i hi => ?_⟩ (by omega) (by repeat (first | exact trivial | refine ⟨rfl, ?_⟩)) (fun w hw => hw)
            rcases Nat.lt_succ_iff_lt_or_eq.1 hi with hi | rfl
            · exact hnz i hi
            · exact h71
        · try simp only [decide_eq_true_eq, decide_eq_false_iff_not, beq_iff_eq, beq_eq_false_iff_ne, bne_iff_ne, ne_eq, Bool.not_eq_true', Bool.not_eq_false', bne_eq_false_iff_eq, Bool.not_eq_eq_eq_not, Bool.not_true, Bool.not_false] at h61
          refine H.exit ?_
          refine H.then_exit ?_
          refine H.then_exit ?_
          refine H.blk_hit ?_
          refine H.then_normal ?_
          refine H.seq ?_
          refine H.region ?_
          refine Ops.quiet (Qt.move rfl) rfl ?_
          refine H.conv (fun w hw => refc_mk { c with codes := (c.t1 code).codes } (a := a) (fun _ => ⟨hst, hcd⟩) (by rw [← hcl]; exact hw)) ?_
          refine Ops.eff (Ef.call (fok fab_all rfl Tryd.func25 rfl) rfl (spec_rend w0 b a { c with codes := (c.t1 code).codes } 0 fr)) rfl ?_
          rintro _ _ ⟨rfl, rfl⟩
          refine Ops.nil ?_
          refine H.then_normal ?_
          refine H.seq ?_
          refine H.region ?_
          refine Ops.quiet (Qt.move rfl) rfl ?_
          refine Ops.eff (Ef.call (fok fab_all rfl Tryd.func50 rfl) rfl (spec_rsay w0 b a (Cl.fin { c with codes := (c.t1 code).codes } 0) [81, 85, 73, 84] fr ho (by decide))) rfl ?_
          rintro _ _ ⟨rfl, rfl⟩
          refine Ops.nil ?_
          refine H.then_normal ?_
          refine H.ret ?_
          refine H.then_ret ?_
          have hcn : (c.t1 code).codes.contains 0 = false := by rw [← hcl]; exact codes_not (fun i hi => hnz i (by omega))
          have htk2 : c.take code = (c.t1 code).quit 0 := by
            rw [htk]
            unfold Cl.t2
            rw [if_neg (by rw [e7, e3]; omega), if_neg (by rw [hcn]; simp)]
          rw [htk2]
          refine H.conv (fun w hw => refc_over (X := Cl.say (Cl.fin { c with codes := (c.t1 code).codes } 0) [81, 85, 73, 84]) (Y := (c.t1 code).quit 0) e1.symm e2.symm m1.symm (by show c.out ++ _ = (c.t1 code).out ++ _; rw [e5]) rfl rfl rfl hw) (H.ends rfl (ResAll.nil) ?_)
          exact ⟨rfl, rfl⟩
  · try simp only [decide_eq_true_eq, decide_eq_false_iff_not, beq_iff_eq, beq_eq_false_iff_ne, bne_iff_ne, ne_eq, Bool.not_eq_true', Bool.not_eq_false', bne_eq_false_iff_eq, Bool.not_eq_eq_eq_not, Bool.not_true, Bool.not_false] at h17
    have hs3 : c.state ≠ 3 := by omega
    refine H.skip ?_
    refine H.then_normal ?_
    refine H.seq ?_
    refine H.region ?_
    refine Ops.quiet (Qt.assign rfl) rfl ?_
    refine Ops.nil ?_
    refine H.then_normal ?_
    refine H.seq ?_
    refine H.seq ?_
    refine H.region ?_
    refine Ops.quiet (Qt.move rfl) rfl ?_
    refine Ops.quiet (Qt.nilCheck rfl) rfl ?_
    refine Ops.quiet (Qt.fieldAddr rfl (tk rfl) rfl) rfl ?_
    refine Ops.quiet (Qt.load rfl (tk rfl) rfl (by repeat (first | exact List.Mem.head _ | apply List.Mem.tail)) (by rfl)) rfl ?_
    refine Ops.quiet (Qt.eql rfl rfl) rfl ?_
    refine Ops.nil ?_
    refine H.then_normal ?_
    refine H.cond rfl (fun h85 => ?_) (fun h85 => ?_)
    · try simp only [decide_eq_true_eq, decide_eq_false_iff_not, beq_iff_eq, beq_eq_false_iff_ne, bne_iff_ne, ne_eq, Bool.not_eq_true', Bool.not_eq_false', bne_eq_false_iff_eq, Bool.not_eq_eq_eq_not, Bool.not_true, Bool.not_false] at h85
      refine H.region ?_
      refine Ops.quiet (Qt.assign rfl) rfl ?_
      refine Ops.nil ?_
      refine H.then_normal ?_
      refine H.seq ?_
      refine H.seq ?_
      refine H.region ?_
      refine Ops.quiet (Qt.move rfl) rfl ?_
      refine Ops.quiet (Qt.nilCheck rfl) rfl ?_
      refine Ops.quiet (Qt.fieldAddr rfl (tk rfl) rfl) rfl ?_
      refine Ops.quiet (Qt.load rfl (tk rfl) rfl (by repeat (first | exact List.Mem.head _ | apply List.Mem.tail)) (by rfl)) rfl ?_
      refine Ops.quiet (Qt.eql rfl rfl) rfl ?_
      refine Ops.nil ?_
      refine H.then_normal ?_
      refine H.cond_false rfl (by rw [beq_eq_false_iff_ne]; omega) ?_
      refine H.skip ?_
      refine H.then_normal ?_
      refine H.block ?_
      refine H.seq ?_
      refine H.region ?_
      refine Ops.quiet (Qt.move rfl) rfl ?_
      refine Ops.quiet (Qt.move rfl) rfl ?_
      refine Ops.quiet (Qt.neq rfl rfl) rfl ?_
      refine Ops.quiet (Qt.move rfl) rfl ?_
      refine Ops.guard rfl rfl rfl rfl (fun g112 => ?_) (fun g112 => ?_)
      · have g112' := g112
        try simp only [decide_eq_true_eq, decide_eq_false_iff_not, beq_iff_eq, beq_eq_false_iff_ne, bne_iff_ne, ne_eq, Bool.not_eq_true', Bool.not_eq_false', bne_eq_false_iff_eq, Bool.not_eq_eq_eq_not, Bool.not_true, Bool.not_false] at g112'
        refine Ops.quiet (Qt.move rfl) rfl ?_
        refine Ops.guard_yes rfl rfl rfl rfl g112 ?_
        refine Ops.quiet (Qt.nilCheck rfl) rfl ?_
        refine Ops.guard_yes rfl rfl rfl rfl g112 ?_
        refine Ops.quiet (Qt.fieldAddr rfl (tk rfl) rfl) rfl ?_
        refine Ops.guard_yes rfl rfl rfl rfl g112 ?_
        refine Ops.quiet (Qt.load rfl (tk rfl) rfl (by repeat (first | exact List.Mem.head _ | apply List.Mem.tail)) (by rfl)) rfl ?_
        refine Ops.guard_yes rfl rfl rfl rfl g112 ?_
        refine Ops.quiet (Qt.eql rfl rfl) rfl ?_
        refine Ops.quiet (Qt.pick_f rfl rfl g112) rfl ?_
        refine Ops.quiet (Qt.assign rfl) rfl ?_
        refine Ops.nil ?_
        refine H.then_normal ?_
        refine H.cond rfl (fun h108 => ?_) (fun h108 => ?_)
        · try simp only [decide_eq_true_eq, decide_eq_false_iff_not, beq_iff_eq, beq_eq_false_iff_ne, bne_iff_ne, ne_eq, Bool.not_eq_true', Bool.not_eq_false', bne_eq_false_iff_eq, Bool.not_eq_eq_eq_not, Bool.not_true, Bool.not_false] at h108
          exfalso; omega
        · try simp only [decide_eq_true_eq, decide_eq_false_iff_not, beq_iff_eq, beq_eq_false_iff_ne, bne_iff_ne, ne_eq, Bool.not_eq_true', Bool.not_eq_false', bne_eq_false_iff_eq, Bool.not_eq_eq_eq_not, Bool.not_true, Bool.not_false] at h108
          refine H.seq ?_
          refine H.region ?_
          refine Ops.quiet (Qt.move rfl) rfl ?_
          refine Ops.quiet (Qt.nilCheck rfl) rfl ?_
          refine Ops.quiet (Qt.fieldAddr rfl (tk rfl) rfl) rfl ?_
          refine Ops.quiet (Qt.load rfl (tk rfl) rfl (by repeat (first | exact List.Mem.head _ | apply List.Mem.tail)) (by rfl)) rfl ?_
          refine Ops.quiet (Qt.eql rfl rfl) rfl ?_
          refine Ops.quiet (Qt.assign rfl) rfl ?_
          refine Ops.nil ?_
          refine H.then_normal ?_
          refine H.cond_true rfl (by rw [beq_iff_eq]; omega) ?_
          refine H.seq ?_
          refine H.region ?_
          refine Ops.quiet (Qt.move rfl) rfl ?_
          refine Ops.quiet (Qt.move rfl) rfl ?_
          refine Ops.quiet (Qt.nilCheck rfl) rfl ?_
          refine Ops.quiet (Qt.fieldAddr rfl (tk rfl) rfl) rfl ?_
          refine Ops.quiet (Qt.load rfl (tk rfl) rfl (by repeat (first | exact List.Mem.head _ | apply List.Mem.tail)) (by rfl)) rfl ?_
          refine Ops.quiet (Qt.cat rfl rfl (by (try simp only [List.length_append, List.length_cons, List.length_nil]); omega)) rfl ?_
          refine H.conv (fun w hw => refc_mk c (a := a) hsc hw) ?_
          refine Ops.eff (Ef.call (fok fab_all rfl Tryd.func50 rfl) rfl (spec_rsay w0 b a c _ fr ho (by (try simp only [List.length_append, List.length_cons, List.length_nil]); omega))) rfl ?_
          rintro _ _ ⟨rfl, rfl⟩
          refine Ops.nil ?_
          refine H.then_normal ?_
          refine H.open_refc fun st cd wA wn wc sA sn sc cA cn cc hsc ⟨wl1, wl2, wl3⟩ ⟨sl1, sl2, sl3⟩ ⟨cl1, cl2, cl3⟩ => ?_
          refine H.region ?_
          refine Ops.quiet (Qt.move rfl) rfl ?_
          refine Ops.quiet (Qt.nilCheck rfl) rfl ?_
          refine Ops.quiet (Qt.fieldAddr rfl (tk rfl) rfl) rfl ?_
          refine Ops.eff (Ef.store rfl rfl (tk rfl) rfl rfl (by repeat (first | exact ones_nil | refine ones_cons rfl ?_)) (by repeat (first | exact Upd.head | apply Upd.tail)) (by rfl)) rfl ?_
          rintro _ _ rfl
          refine Ops.nil ?_
          refine H.blk_normal ?_
          have hw : c.wanted = 220 := by unfold Cl.wanted; rw [if_pos (by omega)]
          have hs0 : c.state = 0 := by omega
          have htk : c.take code = c.next := by unfold Cl.take; rw [if_neg hs3, if_neg (by rw [hw]; intro h; exact h g112'), if_neg (by omega)]
          have hn : c.next = Cl.say { c with state := 1 } ([69, 72, 76, 79, 32] ++ c.host) := by unfold Cl.next; rw [hs0]; rfl
          rw [htk, hn]
          refine H.conv (fun w hw => refc_mk (Cl.say { c with state := 1 } ([69, 72, 76, 79, 32] ++ c.host)) (a := a) (fun _ => ⟨rfl, (hsc hov).2⟩) hw) (H.ends_n rfl (ResAll.nil) ?_)
          exact ⟨rfl, rfl⟩
      · have g112' := g112
        try simp only [decide_eq_true_eq, decide_eq_false_iff_not, beq_iff_eq, beq_eq_false_iff_ne, bne_iff_ne, ne_eq, Bool.not_eq_true', Bool.not_eq_false', bne_eq_false_iff_eq, Bool.not_eq_eq_eq_not, Bool.not_true, Bool.not_false] at g112'
        refine Ops.guard_no rfl rfl rfl rfl g112 ?_
        refine Ops.guard_no rfl rfl rfl rfl g112 ?_
        refine Ops.guard_no rfl rfl rfl rfl g112 ?_
        refine Ops.guard_no rfl rfl rfl rfl g112 ?_
        refine Ops.quiet (Qt.pick_t rfl rfl g112) rfl ?_
        refine Ops.quiet (Qt.assign rfl) rfl ?_
        refine Ops.nil ?_
        refine H.then_normal ?_
        refine H.cond_true rfl (by rfl) ?_
        refine H.seq ?_
        refine H.region ?_
        refine Ops.quiet (Qt.move rfl) rfl ?_
        refine Ops.quiet (Qt.move rfl) rfl ?_
        refine H.conv (fun w hw => refc_mk c (a := a) hsc hw) ?_
        refine Ops.eff (Ef.call (fok fab_all rfl Tryd.func25 rfl) rfl (spec_rend w0 b a c code fr)) rfl ?_
        rintro _ _ ⟨rfl, rfl⟩
        refine Ops.nil ?_
        refine H.then_normal ?_
        refine H.region ?_
        refine Ops.quiet (Qt.move rfl) rfl ?_
        refine Ops.eff (Ef.call (fok fab_all rfl Tryd.func50 rfl) rfl (spec_rsay w0 b a (c.fin code) [81, 85, 73, 84] fr ho (by decide))) rfl ?_
        rintro _ _ ⟨rfl, rfl⟩
        refine Ops.nil ?_
        refine H.blk_normal ?_
        have hw : c.wanted = 220 := by unfold Cl.wanted; rw [if_pos (by omega)]
        have htk : c.take code = c.quit code := by unfold Cl.take; rw [if_neg hs3, if_pos (by rw [hw]; exact g112')]
        rw [htk]
        refine (H.ends_n rfl (ResAll.nil) ?_)
        exact ⟨rfl, rfl⟩
    · try simp only [decide_eq_true_eq, decide_eq_false_iff_not, beq_iff_eq, beq_eq_false_iff_ne, bne_iff_ne, ne_eq, Bool.not_eq_true', Bool.not_eq_false', bne_eq_false_iff_eq, Bool.not_eq_eq_eq_not, Bool.not_true, Bool.not_false] at h85
      refine H.skip ?_
      refine H.then_normal ?_
      refine H.seq ?_
      refine H.seq ?_
      refine H.region ?_
      refine Ops.quiet (Qt.move rfl) rfl ?_
      refine Ops.quiet (Qt.nilCheck rfl) rfl ?_
      refine Ops.quiet (Qt.fieldAddr rfl (tk rfl) rfl) rfl ?_
      refine Ops.quiet (Qt.load rfl (tk rfl) rfl (by repeat (first | exact List.Mem.head _ | apply List.Mem.tail)) (by rfl)) rfl ?_
      refine Ops.quiet (Qt.eql rfl rfl) rfl ?_
      refine Ops.nil ?_
      refine H.then_normal ?_
      refine H.cond rfl (fun h90 => ?_) (fun h90 => ?_)
      · try simp only [decide_eq_true_eq, decide_eq_false_iff_not, beq_iff_eq, beq_eq_false_iff_ne, bne_iff_ne, ne_eq, Bool.not_eq_true', Bool.not_eq_false', bne_eq_false_iff_eq, Bool.not_eq_eq_eq_not, Bool.not_true, Bool.not_false] at h90
        refine H.region ?_
        refine Ops.quiet (Qt.assign rfl) rfl ?_
        refine Ops.nil ?_
        refine H.then_normal ?_
        refine H.block ?_
        refine H.seq ?_
        refine H.region ?_
        refine Ops.quiet (Qt.move rfl) rfl ?_
        refine Ops.quiet (Qt.move rfl) rfl ?_
        refine Ops.quiet (Qt.neq rfl rfl) rfl ?_
        refine Ops.quiet (Qt.move rfl) rfl ?_
        refine Ops.guard rfl rfl rfl rfl (fun g112 => ?_) (fun g112 => ?_)
        · have g112' := g112
          try simp only [decide_eq_true_eq, decide_eq_false_iff_not, beq_iff_eq, beq_eq_false_iff_ne, bne_iff_ne, ne_eq, Bool.not_eq_true', Bool.not_eq_false', bne_eq_false_iff_eq, Bool.not_eq_eq_eq_not, Bool.not_true, Bool.not_false] at g112'
          refine Ops.quiet (Qt.move rfl) rfl ?_
          refine Ops.guard_yes rfl rfl rfl rfl g112 ?_
          refine Ops.quiet (Qt.nilCheck rfl) rfl ?_
          refine Ops.guard_yes rfl rfl rfl rfl g112 ?_
          refine Ops.quiet (Qt.fieldAddr rfl (tk rfl) rfl) rfl ?_
          refine Ops.guard_yes rfl rfl rfl rfl g112 ?_
          refine Ops.quiet (Qt.load rfl (tk rfl) rfl (by repeat (first | exact List.Mem.head _ | apply List.Mem.tail)) (by rfl)) rfl ?_
          refine Ops.guard_yes rfl rfl rfl rfl g112 ?_
          refine Ops.quiet (Qt.eql rfl rfl) rfl ?_
          refine Ops.quiet (Qt.pick_f rfl rfl g112) rfl ?_
          refine Ops.quiet (Qt.assign rfl) rfl ?_
          refine Ops.nil ?_
          refine H.then_normal ?_
          refine H.cond rfl (fun h108 => ?_) (fun h108 => ?_)
          · try simp only [decide_eq_true_eq, decide_eq_false_iff_not, beq_iff_eq, beq_eq_false_iff_ne, bne_iff_ne, ne_eq, Bool.not_eq_true', Bool.not_eq_false', bne_eq_false_iff_eq, Bool.not_eq_eq_eq_not, Bool.not_true, Bool.not_false] at h108
            exfalso; omega
          · try simp only [decide_eq_true_eq, decide_eq_false_iff_not, beq_iff_eq, beq_eq_false_iff_ne, bne_iff_ne, ne_eq, Bool.not_eq_true', Bool.not_eq_false', bne_eq_false_iff_eq, Bool.not_eq_eq_eq_not, Bool.not_true, Bool.not_false] at h108
            refine H.seq ?_
            refine H.region ?_
            refine Ops.quiet (Qt.move rfl) rfl ?_
            refine Ops.quiet (Qt.nilCheck rfl) rfl ?_
            refine Ops.quiet (Qt.fieldAddr rfl (tk rfl) rfl) rfl ?_
            refine Ops.quiet (Qt.load rfl (tk rfl) rfl (by repeat (first | exact List.Mem.head _ | apply List.Mem.tail)) (by rfl)) rfl ?_
            refine Ops.quiet (Qt.eql rfl rfl) rfl ?_
            refine Ops.quiet (Qt.assign rfl) rfl ?_
            refine Ops.nil ?_
            refine H.then_normal ?_
            refine H.cond_false rfl (by rw [beq_eq_false_iff_ne]; omega) ?_
            refine H.seq ?_
            refine H.region ?_
            refine Ops.quiet (Qt.move rfl) rfl ?_
            refine Ops.quiet (Qt.nilCheck rfl) rfl ?_
            refine Ops.quiet (Qt.fieldAddr rfl (tk rfl) rfl) rfl ?_
            refine Ops.quiet (Qt.load rfl (tk rfl) rfl (by repeat (first | exact List.Mem.head _ | apply List.Mem.tail)) (by rfl)) rfl ?_
            refine Ops.quiet (Qt.eql rfl rfl) rfl ?_
            refine Ops.quiet (Qt.assign rfl) rfl ?_
            refine Ops.nil ?_
            refine H.then_normal ?_
            refine H.cond_false rfl (by rw [beq_eq_false_iff_ne]; omega) ?_
            refine H.seq ?_
            refine H.region ?_
            refine Ops.quiet (Qt.move rfl) rfl ?_
            refine Ops.quiet (Qt.nilCheck rfl) rfl ?_
            refine Ops.quiet (Qt.fieldAddr rfl (tk rfl) rfl) rfl ?_
            refine Ops.quiet (Qt.load rfl (tk rfl) rfl (by repeat (first | exact List.Mem.head _ | apply List.Mem.tail)) (by rfl)) rfl ?_
            refine Ops.quiet (Qt.eql rfl rfl) rfl ?_
            refine Ops.quiet (Qt.assign rfl) rfl ?_
            refine Ops.nil ?_
            refine H.then_normal ?_
            refine H.cond_false rfl (by rw [beq_eq_false_iff_ne]; omega) ?_
            refine H.seq ?_
            refine H.drawn ([blk b [str c.host, str c.frm, .slice a.tA a.tn a.tc, .slice a.bA a.bn a.bc, .slice wA wn wc, num cd, .slice sA sn sc, num st, .slice cA cn cc, bol c.over] 33]) 12 mixed (by kernel_rfl) ?_
            refine Hd.quiet 0 (by kernel_rfl) rfl rfl (by kernel_rfl) rfl (Qt.move rfl) ?_
            refine Hd.quiet 1 (by kernel_rfl) rfl rfl (by kernel_rfl) rfl (Qt.move rfl) ?_
            refine Hd.quiet 2 (by kernel_rfl) rfl rfl (by kernel_rfl) rfl (Qt.nilCheck rfl) ?_
            refine Hd.quiet 3 (by kernel_rfl) rfl rfl (by kernel_rfl) rfl (Qt.fieldAddr rfl (tk rfl) rfl) ?_
            refine Hd.quiet 4 (by kernel_rfl) rfl rfl (by kernel_rfl) rfl (Qt.load rfl (tk rfl) rfl (by repeat (first | exact List.Mem.head _ | apply List.Mem.tail)) (by rfl)) ?_
            refine Hd.quiet 5 (by kernel_rfl) rfl rfl (by kernel_rfl) rfl (Qt.move rfl) ?_
            refine Hd.quiet 6 (by kernel_rfl) rfl rfl (by kernel_rfl) rfl (Qt.nilCheck rfl) ?_
            refine Hd.quiet 7 (by kernel_rfl) rfl rfl (by kernel_rfl) rfl (Qt.fieldAddr rfl (tk rfl) rfl) ?_
            refine Hd.quiet 8 (by kernel_rfl) rfl rfl (by kernel_rfl) rfl (Qt.load rfl (tk rfl) rfl (by repeat (first | exact List.Mem.head _ | apply List.Mem.tail)) (by rfl)) ?_
            refine Hd.eff 9 (by intro w hw; first | exact hw | exact Own.sub (by repeat (first | exact List.Sublist.refl _ | exact List.nil_sublist _ | apply List.Sublist.cons_cons | apply List.Sublist.cons)) hw) rfl rfl (by kernel_rfl) rfl (Ef.call (fok fab_all rfl Tryd.func18 rfl) rfl (spec_rstuff w0 body _ (by repeat (first | assumption | exact Reads.of_head | apply Reads.tail)) hbs)) ?_
            rintro _ _ ⟨rfl, rfl⟩
            refine Hd.eff 10 (by intro w hw; first | exact hw | exact Own.sub (by repeat (first | exact List.Sublist.refl _ | exact List.nil_sublist _ | apply List.Sublist.cons_cons | apply List.Sublist.cons)) hw) rfl rfl (by kernel_rfl) rfl (Ef.buildSlice (tk rfl) (tk rfl) rfl (zk rfl) rfl rfl rfl (by repeat (first | exact ones_nil | refine ones_cons rfl ?_))) ?_
            rintro _ _ ⟨A101, c101, rfl, rfl⟩
            refine Hd.eff 11 (by intro w hw; first | exact hw | exact Own.sub (by repeat (first | exact List.Sublist.refl _ | exact List.nil_sublist _ | apply List.Sublist.cons_cons | apply List.Sublist.cons)) hw) rfl rfl (by kernel_rfl) rfl (Ef.append1 rfl rfl (tk rfl) (tk rfl) rfl (zk rfl) (by repeat (first | assumption | exact Reads.of_head | apply Reads.tail)) (by intro _ _; repeat (first | exact Upd.head | apply Upd.tail)) (fun _ => rfl) (by dsimp only; omega) (by simp only [maxLen]; omega)) ?_
            rintro _ _ ⟨A102, c102, rfl, rfl⟩
            refine Hd.tail (by intro w hw; first | exact hw | exact Own.sub (by repeat (first | exact List.Sublist.refl _ | exact List.nil_sublist _ | apply List.Sublist.cons_cons | apply List.Sublist.cons)) hw) (by kernel_rfl) rfl ?_
            refine Ops.quiet (Qt.nilCheck rfl) rfl ?_
            refine Ops.quiet (Qt.fieldAddr rfl (tk rfl) rfl) rfl ?_
            refine Ops.eff (Ef.store rfl rfl (tk rfl) rfl rfl (by repeat (first | exact ones_nil | refine ones_cons rfl ?_)) (by repeat (first | exact Upd.head | apply Upd.tail)) (by rfl)) rfl ?_
            rintro _ _ rfl
            refine Ops.nil ?_
            refine H.then_normal ?_
            refine H.region ?_
            refine Ops.quiet (Qt.move rfl) rfl ?_
            refine Ops.quiet (Qt.nilCheck rfl) rfl ?_
            refine Ops.quiet (Qt.fieldAddr rfl (tk rfl) rfl) rfl ?_
            refine Ops.eff (Ef.store rfl rfl (tk rfl) rfl rfl (by repeat (first | exact ones_nil | refine ones_cons rfl ?_)) (by repeat (first | exact Upd.head | apply Upd.tail)) (by rfl)) rfl ?_
            rintro _ _ rfl
            refine Ops.nil ?_
            refine H.blk_normal ?_
            have hw : c.wanted = 354 := by unfold Cl.wanted; rw [if_neg (by omega), if_pos (by omega)]
            have hs0 : c.state = 4 := by omega
            have htk : c.take code = c.next := by unfold Cl.take; rw [if_neg hs3, if_neg (by rw [hw]; intro h; exact h g112'), if_neg (by omega)]
            have hn : c.next = { c with state := 5, out := c.out ++ [c.body] } := by unfold Cl.next; rw [hs0]; rfl
            rw [htk, hn]
            refine H.conv (fun w hw => refc_mk ({ c with state := 5, out := c.out ++ [c.body] }) (a := a) (fun _ => ⟨rfl, hcd⟩) (by show Own w0 w (_ :: _ :: osl _ _ _ _ ((c.out ++ [c.body]).map str) :: _ :: fr); rw [hbd]; exact hw.tail)) (H.ends_n rfl (ResAll.nil) ?_)
            exact ⟨rfl, rfl⟩
        · have g112' := g112
          try simp only [decide_eq_true_eq, decide_eq_false_iff_not, beq_iff_eq, beq_eq_false_iff_ne, bne_iff_ne, ne_eq, Bool.not_eq_true', Bool.not_eq_false', bne_eq_false_iff_eq, Bool.not_eq_eq_eq_not, Bool.not_true, Bool.not_false] at g112'
          refine Ops.guard_no rfl rfl rfl rfl g112 ?_
          refine Ops.guard_no rfl rfl rfl rfl g112 ?_
          refine Ops.guard_no rfl rfl rfl rfl g112 ?_
          refine Ops.guard_no rfl rfl rfl rfl g112 ?_
          refine Ops.quiet (Qt.pick_t rfl rfl g112) rfl ?_
          refine Ops.quiet (Qt.assign rfl) rfl ?_
          refine Ops.nil ?_
          refine H.then_normal ?_
          refine H.cond_true rfl (by rfl) ?_
          refine H.seq ?_
          refine H.region ?_
          refine Ops.quiet (Qt.move rfl) rfl ?_
          refine Ops.quiet (Qt.move rfl) rfl ?_
          refine H.conv (fun w hw => refc_mk c (a := a) hsc hw) ?_
          refine Ops.eff (Ef.call (fok fab_all rfl Tryd.func25 rfl) rfl (spec_rend w0 b a c code fr)) rfl ?_
          rintro _ _ ⟨rfl, rfl⟩
          refine Ops.nil ?_
          refine H.then_normal ?_
          refine H.region ?_
          refine Ops.quiet (Qt.move rfl) rfl ?_
          refine Ops.eff (Ef.call (fok fab_all rfl Tryd.func50 rfl) rfl (spec_rsay w0 b a (c.fin code) [81, 85, 73, 84] fr ho (by decide))) rfl ?_
          rintro _ _ ⟨rfl, rfl⟩
          refine Ops.nil ?_
          refine H.blk_normal ?_
          have hw : c.wanted = 354 := by unfold Cl.wanted; rw [if_neg (by omega), if_pos (by omega)]
          have htk : c.take code = c.quit code := by unfold Cl.take; rw [if_neg hs3, if_pos (by rw [hw]; exact g112')]
          rw [htk]
          refine (H.ends_n rfl (ResAll.nil) ?_)
          exact ⟨rfl, rfl⟩
      · try simp only [decide_eq_true_eq, decide_eq_false_iff_not, beq_iff_eq, beq_eq_false_iff_ne, bne_iff_ne, ne_eq, Bool.not_eq_true', Bool.not_eq_false', bne_eq_false_iff_eq, Bool.not_eq_eq_eq_not, Bool.not_true, Bool.not_false] at h90
        refine H.skip ?_
        refine H.then_normal ?_
        refine H.block ?_
        refine H.seq ?_
        refine H.region ?_
        refine Ops.quiet (Qt.move rfl) rfl ?_
        refine Ops.quiet (Qt.move rfl) rfl ?_
        refine Ops.quiet (Qt.neq rfl rfl) rfl ?_
        refine Ops.quiet (Qt.move rfl) rfl ?_
        refine Ops.guard rfl rfl rfl rfl (fun g112 => ?_) (fun g112 => ?_)
        · have g112' := g112
          try simp only [decide_eq_true_eq, decide_eq_false_iff_not, beq_iff_eq, beq_eq_false_iff_ne, bne_iff_ne, ne_eq, Bool.not_eq_true', Bool.not_eq_false', bne_eq_false_iff_eq, Bool.not_eq_eq_eq_not, Bool.not_true, Bool.not_false] at g112'
          refine Ops.quiet (Qt.move rfl) rfl ?_
          refine Ops.guard_yes rfl rfl rfl rfl g112 ?_
          refine Ops.quiet (Qt.nilCheck rfl) rfl ?_
          refine Ops.guard_yes rfl rfl rfl rfl g112 ?_
          refine Ops.quiet (Qt.fieldAddr rfl (tk rfl) rfl) rfl ?_
          refine Ops.guard_yes rfl rfl rfl rfl g112 ?_
          refine Ops.quiet (Qt.load rfl (tk rfl) rfl (by repeat (first | exact List.Mem.head _ | apply List.Mem.tail)) (by rfl)) rfl ?_
          refine Ops.guard_yes rfl rfl rfl rfl g112 ?_
          refine Ops.quiet (Qt.eql rfl rfl) rfl ?_
          refine Ops.quiet (Qt.pick_f rfl rfl g112) rfl ?_
          refine Ops.quiet (Qt.assign rfl) rfl ?_
          refine Ops.nil ?_
          refine H.then_normal ?_
          refine H.cond rfl (fun h108 => ?_) (fun h108 => ?_)
          · try simp only [decide_eq_true_eq, decide_eq_false_iff_not, beq_iff_eq, beq_eq_false_iff_ne, bne_iff_ne, ne_eq, Bool.not_eq_true', Bool.not_eq_false', bne_eq_false_iff_eq, Bool.not_eq_eq_eq_not, Bool.not_true, Bool.not_false] at h108
            refine H.seq ?_
            refine H.region ?_
            refine Ops.quiet (Qt.move rfl) rfl ?_
            refine Ops.quiet (Qt.move rfl) rfl ?_
            refine H.conv (fun w hw => refc_mk c (a := a) hsc hw) ?_
            refine Ops.eff (Ef.call (fok fab_all rfl Tryd.func25 rfl) rfl (spec_rend w0 b a c code fr)) rfl ?_
            rintro _ _ ⟨rfl, rfl⟩
            refine Ops.nil ?_
            refine H.then_normal ?_
            refine H.region ?_
            refine Ops.quiet (Qt.move rfl) rfl ?_
            refine Ops.eff (Ef.call (fok fab_all rfl Tryd.func50 rfl) rfl (spec_rsay w0 b a (c.fin code) [81, 85, 73, 84] fr ho (by decide))) rfl ?_
            rintro _ _ ⟨rfl, rfl⟩
            refine Ops.nil ?_
            refine H.blk_normal ?_
            have hw : c.wanted = 250 := by unfold Cl.wanted; rw [if_neg (by omega), if_neg (by omega)]
            have htk : c.take code = c.quit 250 := by unfold Cl.take; rw [if_neg hs3, if_neg (by rw [hw]; intro h; exact h g112'), if_pos (by omega)]
            rw [htk]
            refine (H.ends_n rfl (ResAll.nil) ?_)
            exact ⟨rfl, by rw [g112']; rfl⟩
          · try simp only [decide_eq_true_eq, decide_eq_false_iff_not, beq_iff_eq, beq_eq_false_iff_ne, bne_iff_ne, ne_eq, Bool.not_eq_true', Bool.not_eq_false', bne_eq_false_iff_eq, Bool.not_eq_eq_eq_not, Bool.not_true, Bool.not_false] at h108
            refine H.seq ?_
            refine H.region ?_
            refine Ops.quiet (Qt.move rfl) rfl ?_
            refine Ops.quiet (Qt.nilCheck rfl) rfl ?_
            refine Ops.quiet (Qt.fieldAddr rfl (tk rfl) rfl) rfl ?_
            refine Ops.quiet (Qt.load rfl (tk rfl) rfl (by repeat (first | exact List.Mem.head _ | apply List.Mem.tail)) (by rfl)) rfl ?_
            refine Ops.quiet (Qt.eql rfl rfl) rfl ?_
            refine Ops.quiet (Qt.assign rfl) rfl ?_
            refine Ops.nil ?_
            refine H.then_normal ?_
            refine H.cond_false rfl (by rw [beq_eq_false_iff_ne]; omega) ?_
            refine H.seq ?_
            refine H.region ?_
            refine Ops.quiet (Qt.move rfl) rfl ?_
            refine Ops.quiet (Qt.nilCheck rfl) rfl ?_
            refine Ops.quiet (Qt.fieldAddr rfl (tk rfl) rfl) rfl ?_
            refine Ops.quiet (Qt.load rfl (tk rfl) rfl (by repeat (first | exact List.Mem.head _ | apply List.Mem.tail)) (by rfl)) rfl ?_
            refine Ops.quiet (Qt.eql rfl rfl) rfl ?_
            refine Ops.quiet (Qt.assign rfl) rfl ?_
            refine Ops.nil ?_
            refine H.then_normal ?_
            refine H.cond rfl (fun h140 => ?_) (fun h140 => ?_)
            · try simp only [decide_eq_true_eq, decide_eq_false_iff_not, beq_iff_eq, beq_eq_false_iff_ne, bne_iff_ne, ne_eq, Bool.not_eq_true', Bool.not_eq_false', bne_eq_false_iff_eq, Bool.not_eq_eq_eq_not, Bool.not_true, Bool.not_false] at h140
              refine H.seq ?_
              refine H.region ?_
              refine Ops.quiet (Qt.move rfl) rfl ?_
              refine Ops.quiet (Qt.move rfl) rfl ?_
              refine Ops.quiet (Qt.nilCheck rfl) rfl ?_
              refine Ops.quiet (Qt.fieldAddr rfl (tk rfl) rfl) rfl ?_
              refine Ops.quiet (Qt.load rfl (tk rfl) rfl (by repeat (first | exact List.Mem.head _ | apply List.Mem.tail)) (by rfl)) rfl ?_
              refine Ops.quiet (Qt.cat rfl rfl (by (try simp only [List.length_append, List.length_cons, List.length_nil]); omega)) rfl ?_
              refine Ops.quiet (Qt.cat rfl rfl (by (try simp only [List.length_append, List.length_cons, List.length_nil]); omega)) rfl ?_
              refine H.conv (fun w hw => refc_mk c (a := a) hsc hw) ?_
              refine Ops.eff (Ef.call (fok fab_all rfl Tryd.func50 rfl) rfl (spec_rsay w0 b a c _ fr ho (by (try simp only [List.length_append, List.length_cons, List.length_nil]); omega))) rfl ?_
              rintro _ _ ⟨rfl, rfl⟩
              refine Ops.nil ?_
              refine H.then_normal ?_
              refine H.open_refc fun st cd wA wn wc sA sn sc cA cn cc hsc ⟨wl1, wl2, wl3⟩ ⟨sl1, sl2, sl3⟩ ⟨cl1, cl2, cl3⟩ => ?_
              refine H.region ?_
              refine Ops.quiet (Qt.move rfl) rfl ?_
              refine Ops.quiet (Qt.nilCheck rfl) rfl ?_
              refine Ops.quiet (Qt.fieldAddr rfl (tk rfl) rfl) rfl ?_
              refine Ops.eff (Ef.store rfl rfl (tk rfl) rfl rfl (by repeat (first | exact ones_nil | refine ones_cons rfl ?_)) (by repeat (first | exact Upd.head | apply Upd.tail)) (by rfl)) rfl ?_
              rintro _ _ rfl
              refine Ops.nil ?_
              refine H.blk_normal ?_
              have hw : c.wanted = 250 := by unfold Cl.wanted; rw [if_neg (by omega), if_neg (by omega)]
              have hs0 : c.state = 1 := by omega
              have htk : c.take code = c.next := by unfold Cl.take; rw [if_neg hs3, if_neg (by rw [hw]; intro h; exact h g112'), if_neg (by omega)]
              have hn : c.next = Cl.say { c with state := 2 } ([77, 65, 73, 76, 32, 70, 82, 79, 77, 58, 60] ++ c.frm ++ [62]) := by unfold Cl.next; rw [hs0]; rfl
              rw [htk, hn]
              refine H.conv (fun w hw => refc_mk (Cl.say { c with state := 2 } ([77, 65, 73, 76, 32, 70, 82, 79, 77, 58, 60] ++ c.frm ++ [62])) (a := a) (fun _ => ⟨rfl, (hsc hov).2⟩) hw) (H.ends_n rfl (ResAll.nil) ?_)
              exact ⟨rfl, rfl⟩
            · try simp only [decide_eq_true_eq, decide_eq_false_iff_not, beq_iff_eq, beq_eq_false_iff_ne, bne_iff_ne, ne_eq, Bool.not_eq_true', Bool.not_eq_false', bne_eq_false_iff_eq, Bool.not_eq_eq_eq_not, Bool.not_true, Bool.not_false] at h140
              refine H.seq ?_
              refine H.region ?_
              refine Ops.quiet (Qt.move rfl) rfl ?_
              refine Ops.quiet (Qt.nilCheck rfl) rfl ?_
              refine Ops.quiet (Qt.fieldAddr rfl (tk rfl) rfl) rfl ?_
              refine Ops.quiet (Qt.load rfl (tk rfl) rfl (by repeat (first | exact List.Mem.head _ | apply List.Mem.tail)) (by rfl)) rfl ?_
              refine Ops.quiet (Qt.eql rfl rfl) rfl ?_
              refine Ops.quiet (Qt.assign rfl) rfl ?_
              refine Ops.nil ?_
              refine H.then_normal ?_
              refine H.cond_true rfl (by rw [beq_iff_eq]; omega) ?_
              refine H.seq ?_
              have hsm1 : Sm (c.targets.getD (Int.toNat 0) []) := hsm 0 ht0
              refine H.region ?_
              refine Ops.quiet (Qt.move rfl) rfl ?_
              refine Ops.quiet (Qt.move rfl) rfl ?_
              refine Ops.quiet (Qt.nilCheck rfl) rfl ?_
              refine Ops.quiet (Qt.fieldAddr rfl (tk rfl) rfl) rfl ?_
              refine Ops.quiet (Qt.load rfl (tk rfl) rfl (by repeat (first | exact List.Mem.head _ | apply List.Mem.tail)) (by rfl)) rfl ?_
              refine Ops.quiet (Qt.indexAddr rfl rfl (tk rfl) (tk rfl) rfl (by repeat (first | assumption | exact Reads.of_head | apply Reads.tail)) (by omega) (by omega)) rfl ?_
              refine Ops.quiet (Qt.load_map ([] : List UInt8) rfl (tk rfl) rfl (by repeat (first | assumption | exact Reads.of_head | apply Reads.tail)) (by omega)) rfl ?_
              refine Ops.quiet (Qt.cat rfl rfl (by (try simp only [List.length_append, List.length_cons, List.length_nil]); omega)) rfl ?_
              refine Ops.quiet (Qt.cat rfl rfl (by (try simp only [List.length_append, List.length_cons, List.length_nil]); omega)) rfl ?_
              refine H.conv (fun w hw => refc_mk c (a := a) hsc hw) ?_
              refine Ops.eff (Ef.call (fok fab_all rfl Tryd.func50 rfl) rfl (spec_rsay w0 b a c _ fr ho (by (try simp only [List.length_append, List.length_cons, List.length_nil]); omega))) rfl ?_
              rintro _ _ ⟨rfl, rfl⟩
              refine Ops.nil ?_
              refine H.then_normal ?_
              refine H.open_refc fun st cd wA wn wc sA sn sc cA cn cc hsc ⟨wl1, wl2, wl3⟩ ⟨sl1, sl2, sl3⟩ ⟨cl1, cl2, cl3⟩ => ?_
              refine H.region ?_
              refine Ops.quiet (Qt.move rfl) rfl ?_
              refine Ops.quiet (Qt.nilCheck rfl) rfl ?_
              refine Ops.quiet (Qt.fieldAddr rfl (tk rfl) rfl) rfl ?_
              refine Ops.eff (Ef.store rfl rfl (tk rfl) rfl rfl (by repeat (first | exact ones_nil | refine ones_cons rfl ?_)) (by repeat (first | exact Upd.head | apply Upd.tail)) (by rfl)) rfl ?_
              rintro _ _ rfl
              refine Ops.nil ?_
              refine H.blk_normal ?_
              have hw : c.wanted = 250 := by unfold Cl.wanted; rw [if_neg (by omega), if_neg (by omega)]
              have hs0 : c.state = 2 := by omega
              have htk : c.take code = c.next := by unfold Cl.take; rw [if_neg hs3, if_neg (by rw [hw]; intro h; exact h g112'), if_neg (by omega)]
              have hn : c.next = Cl.say { c with state := 3 } ([82, 67, 80, 84, 32, 84, 79, 58, 60] ++ c.targets.getD 0 [] ++ [62]) := by unfold Cl.next; rw [hs0]; rfl
              rw [htk, hn]
              refine H.conv (fun w hw => refc_mk (Cl.say { c with state := 3 } ([82, 67, 80, 84, 32, 84, 79, 58, 60] ++ c.targets.getD 0 [] ++ [62])) (a := a) (fun _ => ⟨by have := hI.a0 hov (by omega); show (3 : Int) = 3 + c.at_; omega, (hsc hov).2⟩) hw) (H.ends_n rfl (ResAll.nil) ?_)
              exact ⟨rfl, rfl⟩
        · have g112' := g112
          try simp only [decide_eq_true_eq, decide_eq_false_iff_not, beq_iff_eq, beq_eq_false_iff_ne, bne_iff_ne, ne_eq, Bool.not_eq_true', Bool.not_eq_false', bne_eq_false_iff_eq, Bool.not_eq_eq_eq_not, Bool.not_true, Bool.not_false] at g112'
          refine Ops.guard_no rfl rfl rfl rfl g112 ?_
          refine Ops.guard_no rfl rfl rfl rfl g112 ?_
          refine Ops.guard_no rfl rfl rfl rfl g112 ?_
          refine Ops.guard_no rfl rfl rfl rfl g112 ?_
          refine Ops.quiet (Qt.pick_t rfl rfl g112) rfl ?_
          refine Ops.quiet (Qt.assign rfl) rfl ?_
          refine Ops.nil ?_
          refine H.then_normal ?_
          refine H.cond_true rfl (by rfl) ?_
          refine H.seq ?_
          refine H.region ?_
          refine Ops.quiet (Qt.move rfl) rfl ?_
          refine Ops.quiet (Qt.move rfl) rfl ?_
          refine H.conv (fun w hw => refc_mk c (a := a) hsc hw) ?_
          refine Ops.eff (Ef.call (fok fab_all rfl Tryd.func25 rfl) rfl (spec_rend w0 b a c code fr)) rfl ?_
          rintro _ _ ⟨rfl, rfl⟩
          refine Ops.nil ?_
          refine H.then_normal ?_
          refine H.region ?_
          refine Ops.quiet (Qt.move rfl) rfl ?_
          refine Ops.eff (Ef.call (fok fab_all rfl Tryd.func50 rfl) rfl (spec_rsay w0 b a (c.fin code) [81, 85, 73, 84] fr ho (by decide))) rfl ?_
          rintro _ _ ⟨rfl, rfl⟩
          refine Ops.nil ?_
          refine H.blk_normal ?_
          have hw : c.wanted = 250 := by unfold Cl.wanted; rw [if_neg (by omega), if_neg (by omega)]
          have htk : c.take code = c.quit code := by unfold Cl.take; rw [if_neg hs3, if_pos (by rw [hw]; exact g112')]
          rw [htk]
          refine (H.ends_n rfl (ResAll.nil) ?_)
          exact ⟨rfl, rfl⟩
theorem pack4 {w0 w : World} {et et' : TypeId} {B M : SProp} {cs : List SProp} (h : Own w0 w (B :: M :: cs)) : Own w0 w (B :: osl et none 0 0 [] :: osl et' none 0 0 [] :: M :: cs) :=
  (Own.nil_osl et (Own.nil_osl et' h)).perm (List.perm_middle (l₁ := [osl et none 0 0 [], osl et' none 0 0 []]) (l₂ := M :: cs))
theorem stuffV_2 (body : List Bs) : (stuffV body).2 ≠ 0 ↔ goodB body = false := by
  unfold stuffV
  cases goodB body <;> simp
theorem spec_rnewC (w0 : World) (host frm : Bs) (targets body : List Bs) {tA bA : Option Addr} {tn tc bn bc : Nat} (cs : List SProp) (ht : Reads w0 cs tA tn tc (targets.map str)) (hb : Reads w0 cs bA bn bc (body.map str)) (htl : targets.length ≤ 1000000) (hbl : body.length ≤ 1000000000000) (hbs : ∀ s ∈ body, s.length ≤ 4611686018427387904) :
    Spec Tryd.prog w0 9 [str host, str frm, .slice tA tn tc, .slice bA bn bc] cs (fun v cs' => ∃ b, v = ptr b ∧ cs' = refc b ⟨tA, tn, tc, bA, bn, bc⟩ (Cl.new host frm targets body) :: cs) := by
  refine Spec.of_body Tryd.func9 rfl Tryd.ntmps9 rfl ?_
  refine H.fact (fun w hw => (ht w hw).facts) fun ⟨hl, hcap, hmax, hnil⟩ => ?_
  simp only [List.length_map] at hl
  subst hl
  refine H.seq ?_
  refine H.region ?_
  refine Ops.quiet (Qt.assign rfl) rfl ?_
  refine Ops.nil ?_
  refine H.then_normal ?_
  refine H.seq ?_
  refine H.region ?_
  refine Ops.quiet (Qt.move rfl) rfl ?_
  refine Ops.quiet (Qt.move rfl) rfl ?_
  refine Ops.quiet (Qt.move rfl) rfl ?_
  refine Ops.quiet (Qt.move rfl) rfl ?_
  refine Ops.quiet (Qt.move rfl) rfl ?_
  refine Ops.quiet (Qt.len_sl (ats := #[]) rfl (tk rfl)) rfl ?_
  refine Ops.eff (Ef.makeSlice (f := num) (b := 0) rfl rfl (tk rfl) (tk rfl) rfl (zk rfl) (fun _ => rfl) (by omega) (by omega) (by simp; omega) (by omega)) rfl ?_
  rintro _ _ ⟨A16, rfl, rfl⟩
  refine Ops.quiet (Qt.build (tk rfl) (zk rfl) rfl (by rfl)) rfl ?_
  refine Ops.eff (Ef.box rfl rfl) rfl ?_
  rintro _ _ ⟨b18, rfl, rfl⟩
  refine Ops.quiet (Qt.assign rfl) rfl ?_
  refine Ops.nil ?_
  refine H.then_normal ?_
  refine H.seq ?_
  refine H.seq ?_
  refine H.conv (fun w hw => refc_mk (Cl.new0 host frm targets) (a := ⟨tA, targets.length, tc, bA, bn, bc⟩) (fun _ => ⟨rfl, rfl⟩) (pack4 hw)) ?_
  refine H.region ?_
  refine Ops.quiet (Qt.move rfl) rfl ?_
  refine Ops.eff (Ef.call (fok fab_all rfl Tryd.func17 rfl) rfl (spec_rgood w0 body _ (by repeat (first | assumption | exact Reads.of_head | apply Reads.tail)) (by omega) hbs)) rfl ?_
  rintro _ _ ⟨rfl, rfl⟩
  refine Ops.quiet (Qt.not rfl) rfl ?_
  refine Ops.quiet (Qt.move rfl) rfl ?_
  refine Ops.guard rfl rfl rfl rfl (fun g22 => ?_) (fun g22 => ?_)
  · have g22' := g22
    try simp only [decide_eq_true_eq, decide_eq_false_iff_not, beq_iff_eq, beq_eq_false_iff_ne, bne_iff_ne, ne_eq, Bool.not_eq_true', Bool.not_eq_false', bne_eq_false_iff_eq, Bool.not_eq_eq_eq_not, Bool.not_true, Bool.not_false] at g22'
    refine Ops.quiet (Qt.move rfl) rfl ?_
    refine Ops.guard_yes rfl rfl rfl rfl g22 ?_
    refine Ops.quiet (Qt.len_sl (ats := #[]) rfl (tk rfl)) rfl ?_
    refine Ops.guard_yes rfl rfl rfl rfl g22 ?_
    refine Ops.quiet (Qt.eql rfl rfl) rfl ?_
    refine Ops.quiet (Qt.pick_f rfl rfl g22) rfl ?_
    refine Ops.quiet (Qt.move rfl) rfl ?_
    refine Ops.guard rfl rfl rfl rfl (fun g27 => ?_) (fun g27 => ?_)
    · have g27' := g27
      try simp only [decide_eq_true_eq, decide_eq_false_iff_not, beq_iff_eq, beq_eq_false_iff_ne, bne_iff_ne, ne_eq, Bool.not_eq_true', Bool.not_eq_false', bne_eq_false_iff_eq, Bool.not_eq_eq_eq_not, Bool.not_true, Bool.not_false] at g27'
      refine Ops.quiet (Qt.move rfl) rfl ?_
      refine Ops.guard_yes rfl rfl rfl rfl g27 ?_
      refine Ops.quiet (Qt.len_sl (ats := #[]) rfl (tk rfl)) rfl ?_
      refine Ops.guard_yes rfl rfl rfl rfl g27 ?_
      refine Ops.quiet (Qt.gtr rfl rfl) rfl ?_
      refine Ops.quiet (Qt.pick_f rfl rfl g27) rfl ?_
      refine Ops.nil ?_
      refine H.then_normal ?_
      refine H.cond rfl (fun h31 => ?_) (fun h31 => ?_)
      · try simp only [decide_eq_true_eq, decide_eq_false_iff_not, beq_iff_eq, beq_eq_false_iff_ne, bne_iff_ne, ne_eq, Bool.not_eq_true', Bool.not_eq_false', bne_eq_false_iff_eq, Bool.not_eq_eq_eq_not, Bool.not_true, Bool.not_false] at h31
        refine H.region ?_
        refine Ops.quiet (Qt.move rfl) rfl ?_
        refine Ops.eff (Ef.call (fok fab_all rfl Tryd.func25 rfl) rfl (spec_rend w0 b18 _ _ 554 _)) rfl ?_
        rintro _ _ ⟨rfl, rfl⟩
        refine Ops.nil ?_
        refine H.then_normal ?_
        refine H.seq ?_
        refine H.region ?_
        refine Ops.quiet (Qt.move rfl) rfl ?_
        refine Ops.quiet (Qt.assign rfl) rfl ?_
        refine Ops.nil ?_
        refine H.then_normal ?_
        refine H.ret ?_
        refine (H.ends rfl (.cons (.tmp rfl) .nil) ?_)
        refine ⟨b18, rfl, ?_⟩
        unfold Cl.new
        rw [if_pos (.inr (.inr (by omega)))]
        exact congrArg (· :: cs) (refc_body b18 _ (Cl.fin (Cl.new0 host frm targets) 554) (stuffV body).1).symm
      · try simp only [decide_eq_true_eq, decide_eq_false_iff_not, beq_iff_eq, beq_eq_false_iff_ne, bne_iff_ne, ne_eq, Bool.not_eq_true', Bool.not_eq_false', bne_eq_false_iff_eq, Bool.not_eq_eq_eq_not, Bool.not_true, Bool.not_false] at h31
        refine H.skip ?_
        refine H.then_normal ?_
        refine H.seq ?_
        refine H.region ?_
        refine Ops.quiet (Qt.move rfl) rfl ?_
        refine Ops.quiet (Qt.assign rfl) rfl ?_
        refine Ops.nil ?_
        refine H.then_normal ?_
        refine H.ret ?_
        refine (H.ends rfl (.cons (.tmp rfl) .nil) ?_)
        refine ⟨b18, rfl, ?_⟩
        unfold Cl.new
        rw [if_neg (by intro h; rcases h with h | h | h; exact absurd ((stuffV_2 body).1 h) (by rw [g22']; simp); omega; omega)]
        exact congrArg (· :: cs) (refc_body b18 _ (Cl.new0 host frm targets) (stuffV body).1).symm
    · have g27' := g27
      try simp only [decide_eq_true_eq, decide_eq_false_iff_not, beq_iff_eq, beq_eq_false_iff_ne, bne_iff_ne, ne_eq, Bool.not_eq_true', Bool.not_eq_false', bne_eq_false_iff_eq, Bool.not_eq_eq_eq_not, Bool.not_true, Bool.not_false] at g27'
      refine Ops.guard_no rfl rfl rfl rfl g27 ?_
      refine Ops.guard_no rfl rfl rfl rfl g27 ?_
      refine Ops.quiet (Qt.pick_t rfl rfl g27) rfl ?_
      refine Ops.nil ?_
      refine H.then_normal ?_
      refine H.cond_true rfl (by rfl) ?_
      refine H.region ?_
      refine Ops.quiet (Qt.move rfl) rfl ?_
      refine Ops.eff (Ef.call (fok fab_all rfl Tryd.func25 rfl) rfl (spec_rend w0 b18 _ _ 554 _)) rfl ?_
      rintro _ _ ⟨rfl, rfl⟩
      refine Ops.nil ?_
      refine H.then_normal ?_
      refine H.seq ?_
      refine H.region ?_
      refine Ops.quiet (Qt.move rfl) rfl ?_
      refine Ops.quiet (Qt.assign rfl) rfl ?_
      refine Ops.nil ?_
      refine H.then_normal ?_
      refine H.ret ?_
      refine (H.ends rfl (.cons (.tmp rfl) .nil) ?_)
      refine ⟨b18, rfl, ?_⟩
      unfold Cl.new
      rw [if_pos (.inr (.inl (by omega)))]
      exact congrArg (· :: cs) (refc_body b18 _ (Cl.fin (Cl.new0 host frm targets) 554) (stuffV body).1).symm
  · have g22' := g22
    try simp only [decide_eq_true_eq, decide_eq_false_iff_not, beq_iff_eq, beq_eq_false_iff_ne, bne_iff_ne, ne_eq, Bool.not_eq_true', Bool.not_eq_false', bne_eq_false_iff_eq, Bool.not_eq_eq_eq_not, Bool.not_true, Bool.not_false] at g22'
    refine Ops.guard_no rfl rfl rfl rfl g22 ?_
    refine Ops.guard_no rfl rfl rfl rfl g22 ?_
    refine Ops.quiet (Qt.pick_t rfl rfl g22) rfl ?_
    refine Ops.quiet (Qt.move rfl) rfl ?_
    refine Ops.guard rfl rfl rfl rfl (fun g27 => ?_) (fun g27 => ?_)
    · have g27' := g27
      try simp only [decide_eq_true_eq, decide_eq_false_iff_not, beq_iff_eq, beq_eq_false_iff_ne, bne_iff_ne, ne_eq, Bool.not_eq_true', Bool.not_eq_false', bne_eq_false_iff_eq, Bool.not_eq_eq_eq_not, Bool.not_true, Bool.not_false] at g27'
      exact Bool.noConfusion g27
    · have g27' := g27
      try simp only [decide_eq_true_eq, decide_eq_false_iff_not, beq_iff_eq, beq_eq_false_iff_ne, bne_iff_ne, ne_eq, Bool.not_eq_true', Bool.not_eq_false', bne_eq_false_iff_eq, Bool.not_eq_eq_eq_not, Bool.not_true, Bool.not_false] at g27'
      refine Ops.guard_no rfl rfl rfl rfl g27 ?_
      refine Ops.guard_no rfl rfl rfl rfl g27 ?_
      refine Ops.quiet (Qt.pick_t rfl rfl g27) rfl ?_
      refine Ops.nil ?_
      refine H.then_normal ?_
      refine H.cond_true rfl (by rfl) ?_
      refine H.region ?_
      refine Ops.quiet (Qt.move rfl) rfl ?_
      refine Ops.eff (Ef.call (fok fab_all rfl Tryd.func25 rfl) rfl (spec_rend w0 b18 _ _ 554 _)) rfl ?_
      rintro _ _ ⟨rfl, rfl⟩
      refine Ops.nil ?_
      refine H.then_normal ?_
      refine H.seq ?_
      refine H.region ?_
      refine Ops.quiet (Qt.move rfl) rfl ?_
      refine Ops.quiet (Qt.assign rfl) rfl ?_
      refine Ops.nil ?_
      refine H.then_normal ?_
      refine H.ret ?_
      refine (H.ends rfl (.cons (.tmp rfl) .nil) ?_)
      refine ⟨b18, rfl, ?_⟩
      unfold Cl.new
      rw [if_pos (.inl ((stuffV_2 body).2 g22'))]
      exact congrArg (· :: cs) (refc_body b18 _ (Cl.fin (Cl.new0 host frm targets) 554) (stuffV body).1).symm
end Go.Proofs.YtimldpbddkhedaaDoor
