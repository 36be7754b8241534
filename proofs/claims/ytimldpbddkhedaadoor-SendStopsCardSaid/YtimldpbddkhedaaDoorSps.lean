/- SendStops: a code that is not waited for ends all that is open with it, and QUIT goes. -/
import Derived.Test.YtimldpbddkhedaaDoorStp
namespace Go.Proofs.YtimldpbddkhedaaDoor
open Go Go.RowKit
set_option maxRecDepth 100000
set_option linter.unusedVariables false
set_option linter.unusedSimpArgs false
attribute [local irreducible] Go.wpList Go.Code.wp Go.Exit.then Go.Exit.inBlock Go.Exit.noGoto Ends blk osl oblk LoopI Own Spec
abbrev sR2 : Bs := [50, 50, 48, 32, 120, 13, 10]
abbrev sR5 : Bs := [50, 53, 48, 32, 120, 13, 10]
abbrev sR3 : Bs := [51, 53, 52, 32, 120, 13, 10]
abbrev sTail : Bs := [32, 120, 13, 10, 50, 53, 48, 32, 109, 111, 114, 101, 13, 10]
abbrev sQuit : Bs := [81, 85, 73, 84, 13, 10]
/-- The replies ahead of the one that is not waited for. -/
def stopL (k a : Nat) : List Bs := if a < 3 then [sR2, sR5, sR5].take a else [sR2, sR5, sR5] ++ List.replicate k sR5 ++ (if a = 4 then [sR3] else [])
def stopT (k : Nat) : List Bs := List.replicate k [97, 64, 98]
def stopC (k a i : Nat) : Cl := ((stopL k a).take i).foldl Cl.feed (Cl.new [104] [] (stopT k) [])
def stopW (a : Nat) : Int := [220, 250, 250, 354, 250].getD a 0
def stopChk (k a : Nat) : Bool :=
  let d := stopC k a (stopL k a).length
  d.over == false && d.wait == [] && d.rcode == 0 && d.rlines == [] && d.codes == List.replicate k 0 && d.wanted == stopW a && decide (d.state ≠ 3)
theorem stop_all : ((List.range 5).all fun k => (List.range 5).all fun a => stopChk (k + 1) a) = true := by kernel_rfl
theorem stop_state {k a : Nat} (h0 : 1 ≤ k) (h1 : k ≤ 5) (h2 : a < 5) : stopChk k a = true := by
  have h := List.all_eq_true.1 stop_all (k - 1) (List.mem_range.2 (by omega))
  have := List.all_eq_true.1 h a (List.mem_range.2 h2)
  rwa [show k - 1 + 1 = k by omega] at this
def codeChk (n : Nat) : Bool :=
  let x := decB n ++ sTail
  let s := splitL (lineOf (x.take 5) 512)
  crlf x == some 5 && s.n == (n : Int) && s.more == false && s.text == [120] && s.ok == true && decide (x.length ≤ 100)
theorem code_all : ((List.range 400).all fun k => codeChk (200 + k)) = true := by kernel_rfl
theorem code_state {n : Nat} (h0 : 200 ≤ n) (h1 : n < 600) : codeChk n = true := by
  have h := List.all_eq_true.1 code_all (n - 200) (List.mem_range.2 (by omega))
  rwa [show 200 + (n - 200) = n by omega] at h
theorem stop_fin {d : Cl} {n : Nat} (h0 : 200 ≤ n) (h1 : n < 600) (ho : d.over = false) (hw : d.wait = []) (hc : d.rcode = 0) (hr : d.rlines = []) (hs : d.state ≠ 3) (hne : (n : Int) ≠ d.wanted) :
    ∃ w, d.feed (decB n ++ sTail) = Cl.quit { d with wait := w } n := by
  have h := code_state h0 h1
  simp only [codeChk, Bool.and_eq_true, beq_iff_eq, decide_eq_true_eq] at h
  obtain ⟨⟨⟨⟨⟨a1, a2⟩, a3⟩, a4⟩, a5⟩, a6⟩ := h
  have hsp : splitL (lineOf ((decB n ++ sTail).take 5) 512) = ⟨n, false, [120], true⟩ := by
    generalize splitL (lineOf ((decB n ++ sTail).take 5) 512) = s at a2 a3 a4 a5
    cases s; simp only at a2 a3 a4 a5; subst a2 a3 a4 a5; rfl
  refine ⟨(decB n ++ sTail).drop 7, ?_⟩
  rw [feed_line ho hw hc hr a1 hsp]
  have ht : Cl.take { d with wait := (decB n ++ sTail).drop 7 } n = Cl.quit { d with wait := (decB n ++ sTail).drop 7 } n := by
    unfold Cl.take
    rw [if_neg (by exact hs), if_pos (by exact hne)]
  rw [ht, fdRun_over rfl]
theorem stopL_len (k a : Nat) : (stopL k a).length ≤ k + 4 := by
  unfold stopL
  split
  · simp; omega
  · split <;> simp <;> omega
theorem stopL_sm (k a : Nat) : ∀ s ∈ stopL k a, s.length ≤ 7 := by
  have h3 : ∀ s ∈ [sR2, sR5, sR5], s.length ≤ 7 := by simp
  intro s hs
  unfold stopL at hs
  split at hs
  · exact h3 s (List.mem_of_mem_take hs)
  · rcases List.mem_append.1 hs with hs | hs
    · rcases List.mem_append.1 hs with hs | hs
      · exact h3 s hs
      · rw [List.eq_of_mem_replicate hs]; simp
    · split at hs
      · rw [List.mem_singleton.1 hs]; simp
      · cases hs
theorem stopC_succ {k a i : Nat} (h : i < (stopL k a).length) : stopC k a (i + 1) = (stopC k a i).feed ((stopL k a).getD i []) := by
  unfold stopC
  rw [List.take_succ_eq_append_getElem h, List.foldl_append]
  simp [List.getD_eq_getElem?_getD, h]
theorem stopC_pv {k a : Nat} (hk : k ≤ 5) : ∀ i, i ≤ (stopL k a).length → Pv (stopT k) [] (7 * i) (stopC k a i)
  | 0, _ => (new_pv (host := [104]) (frm := []) (targets := stopT k) (body := []) (by simp [Sm]) (by simp [Sm]) (fun t ht => by rw [List.eq_of_mem_replicate ht]; simp [Sm]) (by simp [stopT]; omega) (by simp)).1
  | i + 1, h => by
    have h1 := stopC_pv (a := a) hk i (by omega)
    rw [stopC_succ (show i < (stopL k a).length by omega)]
    have h2 := feed_pv h1 ((stopL k a).getD i [])
    have h3 : ((stopL k a).getD i []).length ≤ 7 := stopL_sm k a _ (by rw [List.getD_eq_getElem?_getD, List.getElem?_eq_getElem (show i < (stopL k a).length by omega)]; simp)
    exact ⟨h2.inv, h2.tg, h2.bd, h2.rc, by have := h2.o; omega, by have := h2.r; omega⟩
theorem spec_stops (w0 : World) (hG : Gl w0) (n code place : Int) (cs : List SProp) (hn0 : 0 ≤ n) (hn1 : n ≤ 255) (hc0 : 0 ≤ code) (hc1 : code ≤ 65535) (hp0 : 0 ≤ place) (hp1 : place ≤ 255) :
    Spec Tryd.prog w0 6 [.int .u8 n, .int .u16 code, .int .u8 place] cs (fun v _ => v = bol true) := by
  obtain ⟨k, hk⟩ : ∃ k : Nat, (k : Int) = n % 5 + 1 := ⟨(n % 5 + 1).toNat, by omega⟩
  obtain ⟨c, hc⟩ : ∃ c : Nat, (c : Int) = 200 + code % 400 := ⟨(200 + code % 400).toNat, by omega⟩
  obtain ⟨a, ha⟩ : ∃ a : Nat, (a : Int) = place % 5 := ⟨(place % 5).toNat, by omega⟩
  have hk0 : 1 ≤ k := by omega
  have hk1 : k ≤ 5 := by omega
  have hc2 : 200 ≤ c := by omega
  have hc3 : c < 600 := by omega
  have ha1 : a < 5 := by omega
  refine Spec.of_body Tryd.func6 rfl Tryd.ntmps6 rfl ?_
  refine H.seq ?_
  refine H.region ?_
  refine Ops.quiet (Qt.assign rfl) rfl ?_
  refine Ops.nil ?_
  refine H.then_normal ?_
  refine H.seq ?_
  refine H.region ?_
  refine Ops.quiet (Qt.move rfl) rfl ?_
  refine Ops.quiet (Qt.remP rfl rfl (by omega) (by omega)) rfl ?_
  refine Ops.quiet (Qt.conv_k rfl (tk rfl) (tk rfl) (by first | exact IntWalk.i64_in _ (by omega) | exact IntWalk.u8_in _ (by omega) | exact IntWalk.u64_in _ (by omega) | exact IntWalk.u32_in _ (by omega) | exact IntWalk.u16_in _ (by omega))) rfl ?_
  refine Ops.quiet (Qt.addk rfl rfl (by first | exact IntWalk.i64_in _ (by omega) | exact IntWalk.u8_in _ (by omega) | exact IntWalk.u64_in _ (by omega) | exact IntWalk.u32_in _ (by omega) | exact IntWalk.u16_in _ (by omega))) rfl ?_
  refine Ops.quiet (Qt.move rfl) rfl ?_
  refine Ops.quiet (Qt.remP rfl rfl (by omega) (by omega)) rfl ?_
  refine Ops.quiet (Qt.conv_k rfl (tk rfl) (tk rfl) (by first | exact IntWalk.i64_in _ (by omega) | exact IntWalk.u8_in _ (by omega) | exact IntWalk.u64_in _ (by omega) | exact IntWalk.u32_in _ (by omega) | exact IntWalk.u16_in _ (by omega))) rfl ?_
  refine Ops.quiet (Qt.addk rfl rfl (by first | exact IntWalk.i64_in _ (by omega) | exact IntWalk.u8_in _ (by omega) | exact IntWalk.u64_in _ (by omega) | exact IntWalk.u32_in _ (by omega) | exact IntWalk.u16_in _ (by omega))) rfl ?_
  refine Ops.quiet (Qt.assign rfl) rfl ?_
  refine Ops.quiet (Qt.assign rfl) rfl ?_
  refine Ops.nil ?_
  refine H.then_normal ?_
  refine H.seq ?_
  rw [← hk, ← hc]
  refine H.region ?_
  refine Ops.quiet (Qt.assign rfl) rfl ?_
  refine Ops.nil ?_
  refine H.then_normal ?_
  refine H.seq ?_
  refine H.seq ?_
  refine H.region ?_
  refine Ops.quiet (Qt.assign rfl) rfl ?_
  refine Ops.nil ?_
  refine H.then_normal ?_
  refine H.block ?_
  refine H.loop (X := Nat × Option Addr × Nat) (fun p => [(0, .int .u8 n), (1, .int .u16 code), (2, .int .u8 place), (7, num k), (8, num c), (9, .slice p.2.1 p.1 p.2.2), (10, num p.1)]) (fun p => osl 9 p.2.1 p.1 p.2.2 ((stopT p.1).map str) :: cs) (fun p => p.1 ≤ k) (fun p => k - p.1) (0, none, 0) (Nat.zero_le _) (by repeat (first | exact trivial | refine ⟨rfl, ?_⟩)) (fun w hw => Own.nil_osl _ hw) ?_
  rintro ⟨i, A, q⟩ hi
  simp only at hi
  change H _ _ [(0, .int .u8 n), (1, .int .u16 code), (2, .int .u8 place), (7, num k), (8, num c), (9, .slice A i q), (10, num (i : Int))] (osl 9 A i q ((stopT i).map str) :: cs) _
  refine H.seq ?_
  refine H.seq ?_
  refine H.region ?_
  refine Ops.quiet (Qt.move rfl) rfl ?_
  refine Ops.quiet (Qt.move rfl) rfl ?_
  refine Ops.quiet (Qt.lss rfl rfl) rfl ?_
  refine Ops.nil ?_
  refine H.then_normal ?_
  refine H.cond rfl (fun h35 => ?_) (fun h35 => ?_)
  · try simp only [decide_eq_true_eq, decide_eq_false_iff_not, beq_iff_eq, beq_eq_false_iff_ne, bne_iff_ne, ne_eq, Bool.not_eq_true', Bool.not_eq_false', bne_eq_false_iff_eq, Bool.not_eq_eq_eq_not, Bool.not_true, Bool.not_false] at h35
    refine H.skip ?_
    refine H.then_normal ?_
    refine H.seq ?_
    refine H.block ?_
    refine H.region ?_
    refine Ops.quiet (Qt.move rfl) rfl ?_
    refine Ops.eff (Ef.buildSlice (tk rfl) (tk rfl) rfl (zk rfl) rfl rfl rfl (by repeat (first | exact ones_nil | refine ones_cons rfl ?_))) rfl ?_
    rintro _ _ ⟨A39, c39, rfl, rfl⟩
    refine Ops.eff (Ef.append1 (f := str) (l := stopT i) (b := [97, 64, 98]) rfl rfl (tk rfl) (tk rfl) rfl (zk rfl) (by repeat (first | assumption | exact Reads.of_head | apply Reads.tail)) (by intro _ _; repeat (first | exact Upd.head | apply Upd.tail)) (fun _ => rfl) (by dsimp only; omega) (by simp only [maxLen]; omega)) rfl ?_
    rintro _ _ ⟨A40, c40, rfl, rfl⟩
    refine Ops.quiet (Qt.assign rfl) rfl ?_
    refine Ops.nil ?_
    refine H.blk_normal ?_
    refine H.then_normal ?_
    refine H.region ?_
    refine Ops.quiet (Qt.move rfl) rfl ?_
    refine Ops.quiet (Qt.addk rfl rfl (by first | exact IntWalk.i64_in _ (by omega) | exact IntWalk.u8_in _ (by omega) | exact IntWalk.u64_in _ (by omega) | exact IntWalk.u32_in _ (by omega) | exact IntWalk.u16_in _ (by omega))) rfl ?_
    refine Ops.quiet (Qt.assign rfl) rfl ?_
    refine Ops.nil ?_
    refine H.then_normal ?_
    refine H.round (i + 1, A40, c40) (by show i + 1 ≤ k; omega) (by simp only []; omega) (by repeat (first | exact trivial | refine ⟨rfl, ?_⟩)) (fun w hw => ?_)
    have e1 : stopT (i + 1) = stopT i ++ [[97, 64, 98]] := by simp only [stopT]; exact List.replicate_succ'
    rw [e1]
    exact hw.tail
  · try simp only [decide_eq_true_eq, decide_eq_false_iff_not, beq_iff_eq, beq_eq_false_iff_ne, bne_iff_ne, ne_eq, Bool.not_eq_true', Bool.not_eq_false', bne_eq_false_iff_eq, Bool.not_eq_eq_eq_not, Bool.not_true, Bool.not_false] at h35
    refine H.exit ?_
    refine H.then_exit ?_
    refine H.then_exit ?_
    refine H.blk_hit ?_
    refine H.then_normal ?_
    refine H.seq ?_
    obtain rfl : k = i := by omega
    have htl : (stopT k).length = k := by simp [stopT]
    have htm : ∀ t ∈ stopT k, Sm t := fun t ht => by rw [List.eq_of_mem_replicate ht]; simp [Sm]
    refine H.region ?_
    refine Ops.quiet (Qt.move rfl) rfl ?_
    refine Ops.quiet (Qt.remP rfl rfl (by omega) (by omega)) rfl ?_
    refine Ops.quiet (Qt.conv_k rfl (tk rfl) (tk rfl) (by first | exact IntWalk.i64_in _ (by omega) | exact IntWalk.u8_in _ (by omega) | exact IntWalk.u64_in _ (by omega) | exact IntWalk.u32_in _ (by omega) | exact IntWalk.u16_in _ (by omega))) rfl ?_
    refine Ops.quiet (Qt.assign rfl) rfl ?_
    refine Ops.nil ?_
    refine H.then_normal ?_
    refine H.seq ?_
    rw [← ha]
    refine H.region ?_
    refine Ops.eff (Ef.buildSlice (tk rfl) (tk rfl) rfl (zk rfl) rfl rfl rfl (by repeat (first | exact ones_nil | refine ones_cons rfl ?_))) rfl ?_
    rintro _ _ ⟨A44, c44, rfl, rfl⟩
    refine Ops.quiet (Qt.move rfl) rfl ?_
    refine Ops.quiet (Qt.indexAddr rfl rfl (tk rfl) (tk rfl) rfl (by repeat (first | assumption | exact Reads.of_head | apply Reads.tail)) (by omega) (by omega)) rfl ?_
    refine Ops.quiet (Qt.load_map (f := num) (l := [220, 250, 250, 354, 250]) (0 : Int) rfl (tk rfl) rfl (by repeat (first | assumption | exact Reads.of_head | apply Reads.tail)) (by show a < 5; omega)) rfl ?_
    refine Ops.quiet (Qt.assign rfl) rfl ?_
    refine Ops.nil ?_
    refine H.then_normal ?_
    refine H.seq ?_
    refine H.seq ?_
    refine H.region ?_
    refine Ops.quiet (Qt.move rfl) rfl ?_
    refine Ops.quiet (Qt.move rfl) rfl ?_
    refine Ops.quiet (Qt.eql rfl rfl) rfl ?_
    refine Ops.nil ?_
    refine H.then_normal ?_
    refine H.cond rfl (fun h50 => ?_) (fun h50 => ?_)
    · try simp only [decide_eq_true_eq, decide_eq_false_iff_not, beq_iff_eq, beq_eq_false_iff_ne, bne_iff_ne, ne_eq, Bool.not_eq_true', Bool.not_eq_false', bne_eq_false_iff_eq, Bool.not_eq_eq_eq_not, Bool.not_true, Bool.not_false] at h50
      refine H.seq ?_
      refine H.region ?_
      refine Ops.eff (Ef.call (fok fab_all rfl Tryd.func7 rfl) rfl (spec_answers w0 hG _)) rfl ?_
      rintro _ c0 ⟨rfl, h0⟩; subst c0
      refine Ops.quiet (Qt.assign rfl) rfl ?_
      refine Ops.nil ?_
      refine H.then_normal ?_
      refine H.ret ?_
      refine H.then_ret ?_
      refine (H.ends rfl (.cons (.tmp rfl) .nil) ?_)
      rfl
    · try simp only [decide_eq_true_eq, decide_eq_false_iff_not, beq_iff_eq, beq_eq_false_iff_ne, bne_iff_ne, ne_eq, Bool.not_eq_true', Bool.not_eq_false', bne_eq_false_iff_eq, Bool.not_eq_eq_eq_not, Bool.not_true, Bool.not_false] at h50
      refine H.skip ?_
      refine H.then_normal ?_
      refine H.seq ?_
      refine H.region ?_
      refine Ops.quiet (Qt.move rfl) rfl ?_
      refine Ops.eff (Ef.call (fok fab_all rfl Tryd.func8 rfl) rfl (spec_new w0 [104] [] (stopT k) [] _ (by repeat (first | assumption | exact Reads.of_head | apply Reads.tail)) Reads.none (by omega) (by simp))) rfl ?_
      rintro _ _ ⟨b, rfl, rfl⟩
      refine Ops.quiet (Qt.assign rfl) rfl ?_
      refine Ops.nil ?_
      refine H.then_normal ?_
      refine H.seq ?_
      refine H.region ?_
      refine Ops.eff (Ef.buildSlice (tk rfl) (tk rfl) rfl (zk rfl) rfl rfl rfl (by repeat (first | exact ones_nil | refine ones_cons rfl ?_))) rfl ?_
      rintro _ _ ⟨A54, c54, rfl, rfl⟩
      refine Ops.quiet (Qt.assign rfl) rfl ?_
      refine Ops.nil ?_
      refine H.then_normal ?_
      refine H.seq ?_
      refine H.seq ?_
      refine H.region ?_
      refine Ops.quiet (Qt.move rfl) rfl ?_
      refine Ops.quiet (Qt.lss rfl rfl) rfl ?_
      refine Ops.nil ?_
      refine H.then_normal ?_
      refine H.cond rfl (fun h56 => ?_) (fun h56 => ?_)
      · try simp only [decide_eq_true_eq, decide_eq_false_iff_not, beq_iff_eq, beq_eq_false_iff_ne, bne_iff_ne, ne_eq, Bool.not_eq_true', Bool.not_eq_false', bne_eq_false_iff_eq, Bool.not_eq_eq_eq_not, Bool.not_true, Bool.not_false] at h56
        refine H.fact (fun w hw => Own.len (osl_reads (.head _)) hw) fun ⟨_, hq1, hq2⟩ => ?_
        refine H.region ?_
        refine Ops.quiet (Qt.move rfl) rfl ?_
        refine Ops.quiet (Qt.move rfl) rfl ?_
        refine Ops.quiet (Qt.slice rfl (tk rfl) (tk rfl) rfl rfl rfl (by omega) (by omega) (by omega) (by omega)) rfl ?_
        refine Ops.quiet (Qt.assign rfl) rfl ?_
        refine Ops.nil ?_
        refine H.then_normal ?_
        refine H.seq ?_
        refine H.seq ?_
        refine H.conv (fun w hw => Own.cut (lo := 0) (hi := a) (Nat.zero_le _) (by omega) hw) ?_
        refine H.env (ESub.ok (e' := [(7, num k), (8, num c), (11, num a), (13, ptr b), (14, .slice (cutA A54 c54 0) (a - 0) (c54 - 0))]) (by repeat (first | exact trivial | refine ⟨rfl, ?_⟩))) ?_
        have el : (([sR2, sR5, sR5].map str).drop 0).take (a - 0) = (stopL k a).map str := by
          unfold stopL
          rw [if_pos (by omega), List.drop_zero, Nat.sub_zero, List.map_take]
        have ew : (Nat.cast a : Int).toNat - 0 = a := by omega
        refine H.conv (cs' := osl 9 (cutA A54 c54 0) (a - 0) (c54 - 0) ((stopL k a).map str) :: client b (Cl.new [104] [] (stopT k) []) :: cs) (fun w hw => by
          rw [← el]
          exact hw.sub (by repeat (first | exact List.Sublist.refl _ | exact List.nil_sublist _ | apply List.Sublist.cons_cons | apply List.Sublist.cons))) ?_
        obtain ⟨lA, hlA⟩ : ∃ x, x = cutA A54 c54 0 := ⟨_, rfl⟩
        obtain ⟨lm, hlm⟩ : ∃ x, x = a - 0 := ⟨_, rfl⟩
        obtain ⟨lc, hlc⟩ : ∃ x, x = c54 - 0 := ⟨_, rfl⟩
        rw [← hlA, ← hlm, ← hlc]
        clear hlA hlm hlc el ew
        refine H.region ?_
        refine Ops.quiet (Qt.assign rfl) rfl ?_
        refine Ops.nil ?_
        refine H.then_normal ?_
        refine H.block ?_
        refine H.loop (X := Unit) (fun _ => [(7, num k), (8, num c), (11, num a), (13, ptr b), (14, .slice lA lm lc), (15, num 0)]) (fun _ => osl 9 lA lm lc ((stopL k a).map str) :: client b (Cl.new [104] [] (stopT k) []) :: cs) (fun _ => True) (fun _ => 0) () trivial (by repeat (first | exact trivial | refine ⟨rfl, ?_⟩)) (fun w hw => hw) ?_
        intro _ _
        refine H.seq ?_
        refine H.seq ?_
        refine H.region ?_
        refine Ops.quiet (Qt.move rfl) rfl ?_
        refine Ops.quiet (Qt.move rfl) rfl ?_
        refine Ops.quiet (Qt.lss rfl rfl) rfl ?_
        refine Ops.quiet (Qt.move rfl) rfl ?_
        refine Ops.guard rfl rfl rfl rfl (fun g63 => ?_) (fun g63 => ?_)
        · have g63' := g63
          try simp only [decide_eq_true_eq, decide_eq_false_iff_not, beq_iff_eq, beq_eq_false_iff_ne, bne_iff_ne, ne_eq, Bool.not_eq_true', Bool.not_eq_false', bne_eq_false_iff_eq, Bool.not_eq_eq_eq_not, Bool.not_true, Bool.not_false] at g63'
          refine Ops.quiet (Qt.move rfl) rfl ?_
          refine Ops.guard_yes rfl rfl rfl rfl g63 ?_
          refine Ops.quiet (Qt.geq rfl rfl) rfl ?_
          refine Ops.quiet (Qt.pick_t rfl rfl g63) rfl ?_
          refine Ops.nil ?_
          refine H.then_normal ?_
          refine H.cond_false rfl (by exact decide_eq_false (by omega)) ?_
          refine H.exit ?_
          refine H.then_exit ?_
          refine H.then_exit ?_
          refine H.blk_hit ?_
          refine H.then_normal ?_
          refine H.seq ?_
          refine H.seq ?_
          refine H.region ?_
          refine Ops.quiet (Qt.move rfl) rfl ?_
          refine Ops.quiet (Qt.eql rfl rfl) rfl ?_
          refine Ops.nil ?_
          refine H.then_normal ?_
          refine H.cond_false rfl (by exact beq_eq_false_iff_ne.2 (by omega)) ?_
          refine H.skip ?_
          refine H.then_normal ?_
          refine H.seq ?_
          refine H.seq ?_
          refine H.fact (fun w hw => Own.len (osl_reads (.head _)) hw) fun ⟨hlm, hlc, hl9⟩ => ?_
          simp only [List.length_map] at hlm
          refine H.region ?_
          refine Ops.quiet (Qt.assign rfl) rfl ?_
          refine Ops.nil ?_
          refine H.then_normal ?_
          refine H.block ?_
          refine H.loop (X := Nat) (fun i => [(7, num k), (8, num c), (13, ptr b), (14, .slice lA lm lc), (16, num i)]) (fun i => client b (stopC k a i) :: osl 9 lA lm lc ((stopL k a).map str) :: cs) (fun i => i ≤ lm) (fun i => lm - i) 0 (Nat.zero_le _) (by repeat (first | exact trivial | refine ⟨rfl, ?_⟩)) (fun w hw => hw.perm (.swap _ _ _)) ?_
          intro i hi
          have hpv := stopC_pv (a := a) hk1 i (by omega)
          have hsl := stopL_len k a
          refine H.seq ?_
          refine H.seq ?_
          refine H.region ?_
          refine Ops.quiet (Qt.move rfl) rfl ?_
          refine Ops.quiet (Qt.move rfl) rfl ?_
          refine Ops.quiet (Qt.len_sl (ats := #[]) rfl (tk rfl)) rfl ?_
          refine Ops.quiet (Qt.lss rfl rfl) rfl ?_
          refine Ops.nil ?_
          refine H.then_normal ?_
          refine H.cond rfl (fun h80 => ?_) (fun h80 => ?_)
          · try simp only [decide_eq_true_eq, decide_eq_false_iff_not, beq_iff_eq, beq_eq_false_iff_ne, bne_iff_ne, ne_eq, Bool.not_eq_true', Bool.not_eq_false', bne_eq_false_iff_eq, Bool.not_eq_eq_eq_not, Bool.not_true, Bool.not_false] at h80
            refine H.skip ?_
            refine H.then_normal ?_
            refine H.seq ?_
            refine H.block ?_
            have hi2 : i < (stopL k a).length := by
              have h9 : (i : Int) < lm := h80
              omega
            have hxl : ((stopL k a).getD (i : Int).toNat []).length ≤ 7 := stopL_sm k a _ (by show (stopL k a).getD i [] ∈ _; rw [List.getD_eq_getElem?_getD, List.getElem?_eq_getElem hi2]; simp)
            have hpo := hpv.o
            have hpr := hpv.r
            refine H.region ?_
            refine Ops.quiet (Qt.move rfl) rfl ?_
            refine Ops.quiet (Qt.move rfl) rfl ?_
            refine Ops.quiet (Qt.move rfl) rfl ?_
            refine Ops.quiet (Qt.indexAddr rfl rfl (tk rfl) (tk rfl) rfl (by repeat (first | assumption | exact Reads.of_head | apply Reads.tail)) (by omega) (by omega)) rfl ?_
            refine Ops.quiet (Qt.load_map ([] : List UInt8) rfl (tk rfl) rfl (by repeat (first | assumption | exact Reads.of_head | apply Reads.tail)) (by omega)) rfl ?_
            refine Ops.eff (Ef.str_bytes rfl (tk rfl) (tk rfl) (tk rfl) (by omega)) rfl ?_
            rintro _ _ ⟨A88, c88, rfl, rfl⟩
            refine Ops.eff (Ef.call (fok fab_all rfl Tryd.func10 rfl) rfl (Spec.conv (fun w hw => hw.perm (.swap _ _ _)) (spec_feed w0 hG b (stopC k a i) ((stopL k a).getD (i : Int).toNat []) _ (by repeat (first | assumption | exact Reads.of_head | apply Reads.tail)) hpv.inv (by omega) (by omega)))) rfl ?_
            rintro _ c0 ⟨rfl, h0⟩; subst c0
            refine Ops.nil ?_
            refine H.blk_normal ?_
            refine H.then_normal ?_
            refine H.region ?_
            refine Ops.quiet (Qt.move rfl) rfl ?_
            refine Ops.quiet (Qt.addk rfl rfl (by first | exact IntWalk.i64_in _ (by omega) | exact IntWalk.u8_in _ (by omega) | exact IntWalk.u64_in _ (by omega) | exact IntWalk.u32_in _ (by omega) | exact IntWalk.u16_in _ (by omega))) rfl ?_
            refine Ops.quiet (Qt.assign rfl) rfl ?_
            refine Ops.nil ?_
            refine H.then_normal ?_
            refine H.round (i + 1) (by omega) (by omega) (by repeat (first | exact trivial | refine ⟨rfl, ?_⟩)) (fun w hw => ?_)
            rw [stopC_succ hi2]
            exact hw.sub (by repeat (first | exact List.Sublist.refl _ | exact List.nil_sublist _ | apply List.Sublist.cons_cons | apply List.Sublist.cons))
          · try simp only [decide_eq_true_eq, decide_eq_false_iff_not, beq_iff_eq, beq_eq_false_iff_ne, bne_iff_ne, ne_eq, Bool.not_eq_true', Bool.not_eq_false', bne_eq_false_iff_eq, Bool.not_eq_eq_eq_not, Bool.not_true, Bool.not_false] at h80
            refine H.exit ?_
            refine H.then_exit ?_
            refine H.then_exit ?_
            refine H.blk_hit ?_
            refine H.then_normal ?_
            refine H.seq ?_
            refine H.block ?_
            have hilm : i = (stopL k a).length := by omega
            have hst := stop_state hk0 hk1 ha1
            simp only [stopChk, Bool.and_eq_true, beq_iff_eq, decide_eq_true_eq] at hst
            rw [← hilm] at hst
            obtain ⟨D, hD⟩ : ∃ D, D = stopC k a i := ⟨_, rfl⟩
            rw [← hD] at hst hpv ⊢
            obtain ⟨⟨⟨⟨⟨⟨d1, d2⟩, d3⟩, d4⟩, d5⟩, d6⟩, d7⟩ := hst
            refine H.loop (X := List Bs) (fun o => [(7, num k), (8, num c), (13, ptr b)]) (fun o => client b { D with out := o } :: cs) (fun _ => True) (fun o => o.length) D.out trivial (by repeat (first | exact trivial | refine ⟨rfl, ?_⟩)) (fun w hw => hw.sub (by repeat (first | exact List.Sublist.refl _ | exact List.nil_sublist _ | apply List.Sublist.cons_cons | apply List.Sublist.cons))) ?_
            intro o _
            refine H.block ?_
            refine H.seq ?_
            refine H.region ?_
            refine Ops.quiet (Qt.move rfl) rfl ?_
            refine Ops.eff (Ef.call (fok fab_all rfl Tryd.func14 rfl) rfl (spec_Next w0 b { D with out := o } _)) rfl ?_
            rintro _ c0 ⟨rfl, h0⟩; subst c0
            refine Ops.quiet (Qt.move rfl) rfl ?_
            refine Ops.quiet (Qt.extract rfl rfl) rfl ?_
            refine Ops.quiet (Qt.extract rfl rfl) rfl ?_
            refine Ops.quiet (Qt.assign rfl) rfl ?_
            refine Ops.quiet (Qt.assign rfl) rfl ?_
            refine Ops.nil ?_
            refine H.then_normal ?_
            refine H.seq ?_
            refine H.region ?_
            refine Ops.quiet (Qt.move rfl) rfl ?_
            refine Ops.quiet (Qt.not rfl) rfl ?_
            refine Ops.nil ?_
            refine H.then_normal ?_
            refine H.cond rfl (fun h96 => ?_) (fun h96 => ?_)
            · try simp only [decide_eq_true_eq, decide_eq_false_iff_not, beq_iff_eq, beq_eq_false_iff_ne, bne_iff_ne, ne_eq, Bool.not_eq_true', Bool.not_eq_false', bne_eq_false_iff_eq, Bool.not_eq_eq_eq_not, Bool.not_true, Bool.not_false] at h96
              refine H.exit ?_
              refine H.blk_miss rfl ?_
              refine H.then_exit ?_
              refine H.blk_hit ?_
              refine H.then_normal ?_
              refine H.seq ?_
              refine H.seq ?_
              have ho0 : o = [] := by
                cases o with
                | nil => rfl
                | cons x l => simp at h96
              subst ho0
              refine H.region ?_
              refine Ops.quiet (Qt.move rfl) rfl ?_
              refine Ops.eff (Ef.call (fok fab_all rfl Tryd.func15 rfl) rfl (spec_Over w0 b { D with out := [] } _)) rfl ?_
              rintro _ c0 ⟨rfl, h0⟩; subst c0
              refine Ops.nil ?_
              refine H.then_normal ?_
              refine H.cond_false rfl (by exact d1) ?_
              refine H.skip ?_
              refine H.then_normal ?_
              refine H.seq ?_
              have hdl : (decB c).length ≤ 20 := decF_len 20 c
              have hdx : (decB c ++ sTail).length ≤ 100 := by simp; omega
              have hpo := hpv.o
              have hpr := hpv.r
              have hDi : Inv { D with out := [] } := Cl.out_inv hpv.inv
              have hwl : D.wait.length = 0 := by rw [d2]; rfl
              have hrl : D.rlines.length = 0 := by rw [d4]; rfl
              obtain ⟨wq, hwq⟩ := stop_fin (d := { D with out := [] }) (n := c) hc2 hc3 d1 d2 d3 d4 d7 (by show (c : Int) ≠ D.wanted; rw [d6]; exact h50)
              obtain ⟨Q, hQ⟩ : ∃ Q, Q = Cl.quit { ({ D with out := [] } : Cl) with wait := wq } c := ⟨_, rfl⟩
              have q1 : Q.out = [sQuit] := by rw [hQ]; rfl
              have q2 : Q.codes = List.replicate k (c : Int) := by rw [hQ]; show endC c D.codes = _; rw [d5]; simp [endC]
              have q3 : Q.over = true := by rw [hQ]; rfl
              rw [← hQ] at hwq
              have sF := fun (n : Nat) (A : Option Addr) (cap : Nat) (fr : List SProp) hr => spec_feed w0 hG b { D with out := [] } (decB c ++ sTail) (A := A) (n := n) (cap := cap) fr hr hDi (by show 0 + (D.wait.length + _) ≤ _; omega) (by show D.rlines.length + (D.wait.length + _) ≤ _; omega)
              rw [hwq] at sF
              refine H.region ?_
              refine Ops.quiet (Qt.move rfl) rfl ?_
              refine Ops.quiet (Qt.move rfl) rfl ?_
              refine Ops.eff (Ef.call (fok fab_all rfl Tryd.func19 rfl) rfl (spec_dec w0 c (by omega) _)) rfl ?_
              rintro _ c0 ⟨rfl, h0⟩; subst c0
              refine Ops.quiet (Qt.cat rfl rfl (by (try simp only [List.length_append, List.length_cons, List.length_nil]); omega)) rfl ?_
              refine Ops.eff (Ef.str_bytes (l := decB c ++ sTail) rfl (tk rfl) (tk rfl) (tk rfl) (by omega)) rfl ?_
              rintro _ _ ⟨A103, c103, rfl, rfl⟩
              refine Ops.eff (Ef.call (fok fab_all rfl Tryd.func10 rfl) rfl (Spec.conv (fun w hw => hw.perm (.swap _ _ _)) (sF _ _ _ _ (by repeat (first | assumption | exact Reads.of_head | apply Reads.tail))))) rfl ?_
              rintro _ c0 ⟨rfl, h0⟩; subst c0
              refine Ops.nil ?_
              refine H.then_normal ?_
              refine H.seq ?_
              obtain ⟨Z, hZ⟩ : ∃ Z : Cl, Z = { Q with out := [] } := ⟨_, rfl⟩
              have z1 : Z.out = [] := by rw [hZ]
              have z2 : Z.codes = List.replicate k (c : Int) := by rw [hZ]; exact q2
              have z3 : Z.over = true := by rw [hZ]; exact q3
              have z4 : ({ Q with out := Q.out.drop 1 } : Cl) = Z := by rw [hZ, q1]; rfl
              have z5 : ({ Z with out := Z.out.drop 1 } : Cl) = Z := by rw [hZ]; rfl
              have sN := fun fr => spec_Next w0 b Q fr
              have sC := fun fr => spec_Codes w0 b Z fr (by rw [z2, List.length_replicate]; omega)
              have sN2 := fun fr => spec_Next w0 b Z fr
              have sO := fun fr => spec_Over w0 b Z fr
              rw [z4, q1] at sN
              rw [z5, z1] at sN2
              rw [z2, List.length_replicate] at sC
              rw [z3] at sO
              clear z4 z5 hZ
              refine H.region ?_
              refine Ops.quiet (Qt.move rfl) rfl ?_
              refine Ops.eff (Ef.call (fok fab_all rfl Tryd.func14 rfl) rfl (sN _)) rfl ?_
              rintro _ c0 ⟨rfl, h0⟩; subst c0
              refine Ops.quiet (Qt.move rfl) rfl ?_
              refine Ops.quiet (Qt.extract rfl rfl) rfl ?_
              refine Ops.quiet (Qt.extract rfl rfl) rfl ?_
              refine Ops.quiet (Qt.assign rfl) rfl ?_
              refine Ops.quiet (Qt.assign rfl) rfl ?_
              refine Ops.nil ?_
              refine H.then_normal ?_
              refine H.seq ?_
              refine H.region ?_
              refine Ops.quiet (Qt.move rfl) rfl ?_
              refine Ops.eff (Ef.call (fok fab_all rfl Tryd.func16 rfl) rfl (sC _)) rfl ?_
              rintro _ _ ⟨A111, rfl, k111, rfl⟩
              refine Ops.quiet (Qt.assign rfl) rfl ?_
              refine Ops.nil ?_
              refine H.then_normal ?_
              refine H.seq ?_
              refine H.seq ?_
              refine H.region ?_
              refine Ops.quiet (Qt.assign rfl) rfl ?_
              refine Ops.nil ?_
              refine H.then_normal ?_
              refine H.block ?_
              refine H.loop (X := Nat) (fun m => [(7, num k), (8, num c), (13, ptr b), (19, str sQuit), (20, bol true), (21, .slice A111 k k), (22, num m)]) (fun m => client b Z :: osl 3 A111 k k111 ((List.replicate k (c : Int)).map num) :: cs) (fun m => m ≤ k) (fun m => k - m) 0 (Nat.zero_le _) (by repeat (first | exact trivial | refine ⟨rfl, ?_⟩)) (fun w hw => hw.sub (by repeat (first | exact List.Sublist.refl _ | exact List.nil_sublist _ | apply List.Sublist.cons_cons | apply List.Sublist.cons))) ?_
              intro m hm
              refine H.seq ?_
              refine H.seq ?_
              refine H.region ?_
              refine Ops.quiet (Qt.move rfl) rfl ?_
              refine Ops.quiet (Qt.move rfl) rfl ?_
              refine Ops.quiet (Qt.len_sl (ats := #[]) rfl (tk rfl)) rfl ?_
              refine Ops.quiet (Qt.lss rfl rfl) rfl ?_
              refine Ops.nil ?_
              refine H.then_normal ?_
              refine H.cond rfl (fun h115 => ?_) (fun h115 => ?_)
              · try simp only [decide_eq_true_eq, decide_eq_false_iff_not, beq_iff_eq, beq_eq_false_iff_ne, bne_iff_ne, ne_eq, Bool.not_eq_true', Bool.not_eq_false', bne_eq_false_iff_eq, Bool.not_eq_eq_eq_not, Bool.not_true, Bool.not_false] at h115
                refine H.skip ?_
                refine H.then_normal ?_
                refine H.seq ?_
                refine H.block ?_
                refine H.seq ?_
                have hm2 : m < k := by omega
                have hmm : ((m : Int).toNat) < (List.replicate k (c : Int)).length := by rw [List.length_replicate]; exact hm2
                have hmv : (List.replicate k (c : Int)).getD (m : Int).toNat 0 = c := by show (List.replicate k (c : Int)).getD m 0 = c; simp [List.getD_eq_getElem?_getD, hm2]
                refine H.region ?_
                refine Ops.quiet (Qt.move rfl) rfl ?_
                refine Ops.quiet (Qt.move rfl) rfl ?_
                refine Ops.quiet (Qt.indexAddr rfl rfl (tk rfl) (tk rfl) rfl (Reads.clip (c := k111) (xs := (List.replicate k (c : Int)).map num) (by repeat (first | assumption | exact Reads.of_head | apply Reads.tail))) (by omega) (by omega)) rfl ?_
                refine Ops.quiet (Qt.load_map (0 : Int) rfl (tk rfl) rfl (Reads.clip (c := k111) (by repeat (first | assumption | exact Reads.of_head | apply Reads.tail))) (by exact hmm)) rfl ?_
                refine Ops.quiet (Qt.move rfl) rfl ?_
                refine Ops.quiet (Qt.neq rfl rfl) rfl ?_
                refine Ops.nil ?_
                refine H.then_normal ?_
                refine H.cond_false rfl (by rw [hmv]; exact bne_self_eq_false _) ?_
                refine H.skip ?_
                refine H.blk_normal ?_
                refine H.then_normal ?_
                refine H.region ?_
                refine Ops.quiet (Qt.move rfl) rfl ?_
                refine Ops.quiet (Qt.addk rfl rfl (by first | exact IntWalk.i64_in _ (by omega) | exact IntWalk.u8_in _ (by omega) | exact IntWalk.u64_in _ (by omega) | exact IntWalk.u32_in _ (by omega) | exact IntWalk.u16_in _ (by omega))) rfl ?_
                refine Ops.quiet (Qt.assign rfl) rfl ?_
                refine Ops.nil ?_
                refine H.then_normal ?_
                refine H.round (m + 1) (by omega) (by omega) (by repeat (first | exact trivial | refine ⟨rfl, ?_⟩)) (fun w hw => hw)
              · try simp only [decide_eq_true_eq, decide_eq_false_iff_not, beq_iff_eq, beq_eq_false_iff_ne, bne_iff_ne, ne_eq, Bool.not_eq_true', Bool.not_eq_false', bne_eq_false_iff_eq, Bool.not_eq_eq_eq_not, Bool.not_true, Bool.not_false] at h115
                refine H.exit ?_
                refine H.then_exit ?_
                refine H.then_exit ?_
                refine H.blk_hit ?_
                refine H.then_normal ?_
                refine H.seq ?_
                refine H.region ?_
                refine Ops.quiet (Qt.move rfl) rfl ?_
                refine Ops.eff (Ef.call (fok fab_all rfl Tryd.func14 rfl) rfl (sN2 _)) rfl ?_
                rintro _ c0 ⟨rfl, h0⟩; subst c0
                refine Ops.quiet (Qt.move rfl) rfl ?_
                refine Ops.quiet (Qt.extract rfl rfl) rfl ?_
                refine Ops.quiet (Qt.extract rfl rfl) rfl ?_
                refine Ops.quiet (Qt.assign rfl) rfl ?_
                refine Ops.quiet (Qt.assign rfl) rfl ?_
                refine Ops.nil ?_
                refine H.then_normal ?_
                refine H.seq ?_
                refine H.region ?_
                refine Ops.eff (Ef.call (fok fab_all rfl Tryd.func7 rfl) rfl (spec_answers w0 hG _)) rfl ?_
                rintro _ c0 ⟨rfl, h0⟩; subst c0
                refine Ops.quiet (Qt.move rfl) rfl ?_
                refine Ops.guard rfl rfl rfl rfl (fun g130 => ?_) (fun g130 => ?_)
                · have g130' := g130
                  try simp only [decide_eq_true_eq, decide_eq_false_iff_not, beq_iff_eq, beq_eq_false_iff_ne, bne_iff_ne, ne_eq, Bool.not_eq_true', Bool.not_eq_false', bne_eq_false_iff_eq, Bool.not_eq_eq_eq_not, Bool.not_true, Bool.not_false] at g130'
                  refine Ops.quiet (Qt.move rfl) rfl ?_
                  refine Ops.quiet (Qt.pick_t rfl rfl g130) rfl ?_
                  refine Ops.quiet (Qt.move rfl) rfl ?_
                  refine Ops.guard rfl rfl rfl rfl (fun g133 => ?_) (fun g133 => ?_)
                  · have g133' := g133
                    try simp only [decide_eq_true_eq, decide_eq_false_iff_not, beq_iff_eq, beq_eq_false_iff_ne, bne_iff_ne, ne_eq, Bool.not_eq_true', Bool.not_eq_false', bne_eq_false_iff_eq, Bool.not_eq_eq_eq_not, Bool.not_true, Bool.not_false] at g133'
                    refine Ops.quiet (Qt.move rfl) rfl ?_
                    refine Ops.guard_yes rfl rfl rfl rfl g133 ?_
                    refine Ops.quiet (Qt.seq rfl rfl) rfl ?_
                    refine Ops.quiet (Qt.pick_t rfl rfl g133) rfl ?_
                    refine Ops.quiet (Qt.move rfl) rfl ?_
                    refine Ops.guard rfl rfl rfl rfl (fun g137 => ?_) (fun g137 => ?_)
                    · have g137' := g137
                      try simp only [decide_eq_true_eq, decide_eq_false_iff_not, beq_iff_eq, beq_eq_false_iff_ne, bne_iff_ne, ne_eq, Bool.not_eq_true', Bool.not_eq_false', bne_eq_false_iff_eq, Bool.not_eq_eq_eq_not, Bool.not_true, Bool.not_false] at g137'
                      refine Ops.quiet (Qt.move rfl) rfl ?_
                      refine Ops.guard_yes rfl rfl rfl rfl g137 ?_
                      refine Ops.quiet (Qt.not rfl) rfl ?_
                      refine Ops.quiet (Qt.pick_t rfl rfl g137) rfl ?_
                      refine Ops.quiet (Qt.move rfl) rfl ?_
                      refine Ops.guard rfl rfl rfl rfl (fun g141 => ?_) (fun g141 => ?_)
                      · have g141' := g141
                        try simp only [decide_eq_true_eq, decide_eq_false_iff_not, beq_iff_eq, beq_eq_false_iff_ne, bne_iff_ne, ne_eq, Bool.not_eq_true', Bool.not_eq_false', bne_eq_false_iff_eq, Bool.not_eq_eq_eq_not, Bool.not_true, Bool.not_false] at g141'
                        refine Ops.quiet (Qt.move rfl) rfl ?_
                        refine Ops.guard_yes rfl rfl rfl rfl g141 ?_
                        refine Ops.eff (Ef.call (fok fab_all rfl Tryd.func15 rfl) rfl (sO _)) rfl ?_
                        rintro _ c0 ⟨rfl, h0⟩; subst c0
                        refine Ops.quiet (Qt.pick_t rfl rfl g141) rfl ?_
                        refine Ops.quiet (Qt.move rfl) rfl ?_
                        refine Ops.guard rfl rfl rfl rfl (fun g145 => ?_) (fun g145 => ?_)
                        · have g145' := g145
                          try simp only [decide_eq_true_eq, decide_eq_false_iff_not, beq_iff_eq, beq_eq_false_iff_ne, bne_iff_ne, ne_eq, Bool.not_eq_true', Bool.not_eq_false', bne_eq_false_iff_eq, Bool.not_eq_eq_eq_not, Bool.not_true, Bool.not_false] at g145'
                          refine Ops.quiet (Qt.move rfl) rfl ?_
                          refine Ops.guard_yes rfl rfl rfl rfl g145 ?_
                          refine Ops.quiet (Qt.len_sl (ats := #[]) rfl (tk rfl)) rfl ?_
                          refine Ops.guard_yes rfl rfl rfl rfl g145 ?_
                          refine Ops.quiet (Qt.move rfl) rfl ?_
                          refine Ops.guard_yes rfl rfl rfl rfl g145 ?_
                          refine Ops.quiet (Qt.eql rfl rfl) rfl ?_
                          refine Ops.quiet (Qt.pick_t rfl rfl g145) rfl ?_
                          refine Ops.quiet (Qt.assign rfl) rfl ?_
                          refine Ops.nil ?_
                          refine H.then_normal ?_
                          refine H.ret ?_
                          refine (H.ends rfl (.cons (.tmp rfl) .nil) ?_)
                          exact congrArg bol (beq_self_eq_true _)
                        · have g145' := g145
                          try simp only [decide_eq_true_eq, decide_eq_false_iff_not, beq_iff_eq, beq_eq_false_iff_ne, bne_iff_ne, ne_eq, Bool.not_eq_true', Bool.not_eq_false', bne_eq_false_iff_eq, Bool.not_eq_eq_eq_not, Bool.not_true, Bool.not_false] at g145'
                          exact Bool.noConfusion g145
                      · have g141' := g141
                        try simp only [decide_eq_true_eq, decide_eq_false_iff_not, beq_iff_eq, beq_eq_false_iff_ne, bne_iff_ne, ne_eq, Bool.not_eq_true', Bool.not_eq_false', bne_eq_false_iff_eq, Bool.not_eq_eq_eq_not, Bool.not_true, Bool.not_false] at g141'
                        exact Bool.noConfusion g141
                    · have g137' := g137
                      try simp only [decide_eq_true_eq, decide_eq_false_iff_not, beq_iff_eq, beq_eq_false_iff_ne, bne_iff_ne, ne_eq, Bool.not_eq_true', Bool.not_eq_false', bne_eq_false_iff_eq, Bool.not_eq_eq_eq_not, Bool.not_true, Bool.not_false] at g137'
                      exact Bool.noConfusion g137
                  · have g133' := g133
                    try simp only [decide_eq_true_eq, decide_eq_false_iff_not, beq_iff_eq, beq_eq_false_iff_ne, bne_iff_ne, ne_eq, Bool.not_eq_true', Bool.not_eq_false', bne_eq_false_iff_eq, Bool.not_eq_eq_eq_not, Bool.not_true, Bool.not_false] at g133'
                    exact Bool.noConfusion g133
                · have g130' := g130
                  try simp only [decide_eq_true_eq, decide_eq_false_iff_not, beq_iff_eq, beq_eq_false_iff_ne, bne_iff_ne, ne_eq, Bool.not_eq_true', Bool.not_eq_false', bne_eq_false_iff_eq, Bool.not_eq_eq_eq_not, Bool.not_true, Bool.not_false] at g130'
                  exact Bool.noConfusion g130
            · try simp only [decide_eq_true_eq, decide_eq_false_iff_not, beq_iff_eq, beq_eq_false_iff_ne, bne_iff_ne, ne_eq, Bool.not_eq_true', Bool.not_eq_false', bne_eq_false_iff_eq, Bool.not_eq_eq_eq_not, Bool.not_true, Bool.not_false] at h96
              refine H.skip ?_
              refine H.blk_normal ?_
              refine H.then_normal ?_
              have ho0 : 0 < o.length := by simpa using h96
              refine H.round (o.drop 1) trivial (by rw [List.length_drop]; omega) (by repeat (first | exact trivial | refine ⟨rfl, ?_⟩)) (fun w hw => hw)
        · have g63' := g63
          try simp only [decide_eq_true_eq, decide_eq_false_iff_not, beq_iff_eq, beq_eq_false_iff_ne, bne_iff_ne, ne_eq, Bool.not_eq_true', Bool.not_eq_false', bne_eq_false_iff_eq, Bool.not_eq_eq_eq_not, Bool.not_true, Bool.not_false] at g63'
          exact absurd g63' (by omega)
      · try simp only [decide_eq_true_eq, decide_eq_false_iff_not, beq_iff_eq, beq_eq_false_iff_ne, bne_iff_ne, ne_eq, Bool.not_eq_true', Bool.not_eq_false', bne_eq_false_iff_eq, Bool.not_eq_eq_eq_not, Bool.not_true, Bool.not_false] at h56
        refine H.skip ?_
        refine H.then_normal ?_
        refine H.seq ?_
        refine H.seq ?_
        refine H.env (ESub.ok (e' := [(7, num k), (8, num c), (11, num a), (13, ptr b), (14, .slice A54 3 c54)]) (by repeat (first | exact trivial | refine ⟨rfl, ?_⟩))) ?_
        refine H.region ?_
        refine Ops.quiet (Qt.assign rfl) rfl ?_
        refine Ops.nil ?_
        refine H.then_normal ?_
        refine H.block ?_
        refine H.loop (X := Nat × Option Addr × Nat) (fun p => [(7, num k), (8, num c), (11, num a), (13, ptr b), (14, .slice p.2.1 (3 + p.1) p.2.2), (15, num p.1)]) (fun p => osl 9 p.2.1 (3 + p.1) p.2.2 (([sR2, sR5, sR5] ++ List.replicate p.1 sR5).map str) :: client b (Cl.new [104] [] (stopT k) []) :: cs) (fun p => p.1 ≤ k) (fun p => k - p.1) (0, A54, c54) (Nat.zero_le _) (by repeat (first | exact trivial | refine ⟨rfl, ?_⟩)) (fun w hw => hw.sub (by repeat (first | exact List.Sublist.refl _ | exact List.nil_sublist _ | apply List.Sublist.cons_cons | apply List.Sublist.cons))) ?_
        rintro ⟨i, lA, lc⟩ hi
        simp only at hi
        change H _ _ [(7, num k), (8, num c), (11, num a), (13, ptr b), (14, .slice lA (3 + i) lc), (15, num (i : Int))] (osl 9 lA (3 + i) lc (([sR2, sR5, sR5] ++ List.replicate i sR5).map str) :: client b (Cl.new [104] [] (stopT k) []) :: cs) _
        refine H.seq ?_
        refine H.seq ?_
        refine H.region ?_
        refine Ops.quiet (Qt.move rfl) rfl ?_
        refine Ops.quiet (Qt.move rfl) rfl ?_
        refine Ops.quiet (Qt.lss rfl rfl) rfl ?_
        refine Ops.quiet (Qt.move rfl) rfl ?_
        refine Ops.guard rfl rfl rfl rfl (fun g63 => ?_) (fun g63 => ?_)
        · have g63' := g63
          try simp only [decide_eq_true_eq, decide_eq_false_iff_not, beq_iff_eq, beq_eq_false_iff_ne, bne_iff_ne, ne_eq, Bool.not_eq_true', Bool.not_eq_false', bne_eq_false_iff_eq, Bool.not_eq_eq_eq_not, Bool.not_true, Bool.not_false] at g63'
          refine Ops.quiet (Qt.move rfl) rfl ?_
          refine Ops.guard_yes rfl rfl rfl rfl g63 ?_
          refine Ops.quiet (Qt.geq rfl rfl) rfl ?_
          refine Ops.quiet (Qt.pick_t rfl rfl g63) rfl ?_
          refine Ops.nil ?_
          refine H.then_normal ?_
          refine H.cond_true rfl (by exact decide_eq_true (by omega)) ?_
          refine H.skip ?_
          refine H.then_normal ?_
          refine H.seq ?_
          refine H.block ?_
          refine H.region ?_
          refine Ops.quiet (Qt.move rfl) rfl ?_
          refine Ops.eff (Ef.buildSlice (tk rfl) (tk rfl) rfl (zk rfl) rfl rfl rfl (by repeat (first | exact ones_nil | refine ones_cons rfl ?_))) rfl ?_
          rintro _ _ ⟨A70, c70, rfl, rfl⟩
          refine Ops.eff (Ef.append1 (f := str) (l := [sR2, sR5, sR5] ++ List.replicate i sR5) (b := sR5) rfl rfl (tk rfl) (tk rfl) rfl (zk rfl) (by repeat (first | assumption | exact Reads.of_head | apply Reads.tail)) (by intro _ _; repeat (first | exact Upd.head | apply Upd.tail)) (fun _ => rfl) (by dsimp only; omega) (by simp only [maxLen]; omega)) rfl ?_
          rintro _ _ ⟨A71, c71, rfl, rfl⟩
          refine Ops.quiet (Qt.assign rfl) rfl ?_
          refine Ops.nil ?_
          refine H.blk_normal ?_
          refine H.then_normal ?_
          refine H.region ?_
          refine Ops.quiet (Qt.move rfl) rfl ?_
          refine Ops.quiet (Qt.addk rfl rfl (by first | exact IntWalk.i64_in _ (by omega) | exact IntWalk.u8_in _ (by omega) | exact IntWalk.u64_in _ (by omega) | exact IntWalk.u32_in _ (by omega) | exact IntWalk.u16_in _ (by omega))) rfl ?_
          refine Ops.quiet (Qt.assign rfl) rfl ?_
          refine Ops.nil ?_
          refine H.then_normal ?_
          refine H.round (i + 1, A71, c71) (by show i + 1 ≤ k; omega) (by simp only []; omega) (by repeat (first | exact trivial | refine ⟨rfl, ?_⟩)) (fun w hw => ?_)
          have e1 : [sR2, sR5, sR5] ++ List.replicate (i + 1) sR5 = ([sR2, sR5, sR5] ++ List.replicate i sR5) ++ [sR5] := by rw [List.append_assoc]; congr 1; exact List.replicate_succ'
          rw [e1]
          exact hw.tail
        · have g63' := g63
          try simp only [decide_eq_true_eq, decide_eq_false_iff_not, beq_iff_eq, beq_eq_false_iff_ne, bne_iff_ne, ne_eq, Bool.not_eq_true', Bool.not_eq_false', bne_eq_false_iff_eq, Bool.not_eq_eq_eq_not, Bool.not_true, Bool.not_false] at g63'
          refine Ops.guard_no rfl rfl rfl rfl g63 ?_
          refine Ops.quiet (Qt.pick_f rfl rfl g63) rfl ?_
          refine Ops.nil ?_
          refine H.then_normal ?_
          refine H.cond_false rfl (by rfl) ?_
          refine H.exit ?_
          refine H.then_exit ?_
          refine H.then_exit ?_
          refine H.blk_hit ?_
          refine H.then_normal ?_
          refine H.seq ?_
          refine H.seq ?_
          obtain rfl : k = i := by omega
          refine H.region ?_
          refine Ops.quiet (Qt.move rfl) rfl ?_
          refine Ops.quiet (Qt.eql rfl rfl) rfl ?_
          refine Ops.nil ?_
          refine H.then_normal ?_
          refine H.cond rfl (fun h73 => ?_) (fun h73 => ?_)
          · try simp only [decide_eq_true_eq, decide_eq_false_iff_not, beq_iff_eq, beq_eq_false_iff_ne, bne_iff_ne, ne_eq, Bool.not_eq_true', Bool.not_eq_false', bne_eq_false_iff_eq, Bool.not_eq_eq_eq_not, Bool.not_true, Bool.not_false] at h73
            refine H.fact (fun w hw => Own.len (osl_reads (.head _)) hw) fun ⟨_, hl8⟩ => ?_
            refine H.region ?_
            refine Ops.quiet (Qt.move rfl) rfl ?_
            refine Ops.eff (Ef.buildSlice (tk rfl) (tk rfl) rfl (zk rfl) rfl rfl rfl (by repeat (first | exact ones_nil | refine ones_cons rfl ?_))) rfl ?_
            rintro _ _ ⟨A75, c75, rfl, rfl⟩
            refine Ops.eff (Ef.append1 (f := str) (l := [sR2, sR5, sR5] ++ List.replicate k sR5) (b := sR3) rfl rfl (tk rfl) (tk rfl) rfl (zk rfl) (by repeat (first | assumption | exact Reads.of_head | apply Reads.tail)) (by intro _ _; repeat (first | exact Upd.head | apply Upd.tail)) (fun _ => rfl) (by dsimp only; omega) (by simp only [maxLen]; omega)) rfl ?_
            rintro _ _ ⟨A76, c76, rfl, rfl⟩
            refine Ops.quiet (Qt.assign rfl) rfl ?_
            refine Ops.nil ?_
            refine H.then_normal ?_
            refine H.seq ?_
            refine H.seq ?_
            have el : ([sR2, sR5, sR5] ++ List.replicate k sR5) ++ [sR3] = stopL k a := by
              unfold stopL
              rw [if_neg (by omega), if_pos (by omega)]
            rw [el]
            refine H.conv (cs' := osl 9 A76 (3 + k + 1) c76 ((stopL k a).map str) :: client b (Cl.new [104] [] (stopT k) []) :: cs) (fun w hw => hw.sub (by repeat (first | exact List.Sublist.refl _ | exact List.nil_sublist _ | apply List.Sublist.cons_cons | apply List.Sublist.cons))) ?_
            refine H.env (ESub.ok (e' := [(7, num k), (8, num c), (13, ptr b), (14, .slice A76 (3 + k + 1) c76)]) (by repeat (first | exact trivial | refine ⟨rfl, ?_⟩))) ?_
            obtain ⟨lm, hlm0⟩ : ∃ x, x = 3 + k + 1 := ⟨_, rfl⟩
            rw [← hlm0]
            clear hlm0
            obtain ⟨lA, hlA⟩ : ∃ x, x = A76 := ⟨_, rfl⟩
            obtain ⟨lc, hlc⟩ : ∃ x, x = c76 := ⟨_, rfl⟩
            rw [← hlA, ← hlc]
            clear hlA hlc
            refine H.fact (fun w hw => Own.len (osl_reads (.head _)) hw) fun ⟨hlm, hlc, hl9⟩ => ?_
            simp only [List.length_map] at hlm
            refine H.region ?_
            refine Ops.quiet (Qt.assign rfl) rfl ?_
            refine Ops.nil ?_
            refine H.then_normal ?_
            refine H.block ?_
            refine H.loop (X := Nat) (fun i => [(7, num k), (8, num c), (13, ptr b), (14, .slice lA lm lc), (16, num i)]) (fun i => client b (stopC k a i) :: osl 9 lA lm lc ((stopL k a).map str) :: cs) (fun i => i ≤ lm) (fun i => lm - i) 0 (Nat.zero_le _) (by repeat (first | exact trivial | refine ⟨rfl, ?_⟩)) (fun w hw => hw.perm (.swap _ _ _)) ?_
            intro i hi
            have hpv := stopC_pv (a := a) hk1 i (by omega)
            have hsl := stopL_len k a
            refine H.seq ?_
            refine H.seq ?_
            refine H.region ?_
            refine Ops.quiet (Qt.move rfl) rfl ?_
            refine Ops.quiet (Qt.move rfl) rfl ?_
            refine Ops.quiet (Qt.len_sl (ats := #[]) rfl (tk rfl)) rfl ?_
            refine Ops.quiet (Qt.lss rfl rfl) rfl ?_
            refine Ops.nil ?_
            refine H.then_normal ?_
            refine H.cond rfl (fun h80 => ?_) (fun h80 => ?_)
            · try simp only [decide_eq_true_eq, decide_eq_false_iff_not, beq_iff_eq, beq_eq_false_iff_ne, bne_iff_ne, ne_eq, Bool.not_eq_true', Bool.not_eq_false', bne_eq_false_iff_eq, Bool.not_eq_eq_eq_not, Bool.not_true, Bool.not_false] at h80
              refine H.skip ?_
              refine H.then_normal ?_
              refine H.seq ?_
              refine H.block ?_
              have hi2 : i < (stopL k a).length := by
                have h9 : (i : Int) < lm := h80
                omega
              have hxl : ((stopL k a).getD (i : Int).toNat []).length ≤ 7 := stopL_sm k a _ (by show (stopL k a).getD i [] ∈ _; rw [List.getD_eq_getElem?_getD, List.getElem?_eq_getElem hi2]; simp)
              have hpo := hpv.o
              have hpr := hpv.r
              refine H.region ?_
              refine Ops.quiet (Qt.move rfl) rfl ?_
              refine Ops.quiet (Qt.move rfl) rfl ?_
              refine Ops.quiet (Qt.move rfl) rfl ?_
              refine Ops.quiet (Qt.indexAddr rfl rfl (tk rfl) (tk rfl) rfl (by repeat (first | assumption | exact Reads.of_head | apply Reads.tail)) (by omega) (by omega)) rfl ?_
              refine Ops.quiet (Qt.load_map ([] : List UInt8) rfl (tk rfl) rfl (by repeat (first | assumption | exact Reads.of_head | apply Reads.tail)) (by omega)) rfl ?_
              refine Ops.eff (Ef.str_bytes rfl (tk rfl) (tk rfl) (tk rfl) (by omega)) rfl ?_
              rintro _ _ ⟨A88, c88, rfl, rfl⟩
              refine Ops.eff (Ef.call (fok fab_all rfl Tryd.func10 rfl) rfl (Spec.conv (fun w hw => hw.perm (.swap _ _ _)) (spec_feed w0 hG b (stopC k a i) ((stopL k a).getD (i : Int).toNat []) _ (by repeat (first | assumption | exact Reads.of_head | apply Reads.tail)) hpv.inv (by omega) (by omega)))) rfl ?_
              rintro _ c0 ⟨rfl, h0⟩; subst c0
              refine Ops.nil ?_
              refine H.blk_normal ?_
              refine H.then_normal ?_
              refine H.region ?_
              refine Ops.quiet (Qt.move rfl) rfl ?_
              refine Ops.quiet (Qt.addk rfl rfl (by first | exact IntWalk.i64_in _ (by omega) | exact IntWalk.u8_in _ (by omega) | exact IntWalk.u64_in _ (by omega) | exact IntWalk.u32_in _ (by omega) | exact IntWalk.u16_in _ (by omega))) rfl ?_
              refine Ops.quiet (Qt.assign rfl) rfl ?_
              refine Ops.nil ?_
              refine H.then_normal ?_
              refine H.round (i + 1) (by omega) (by omega) (by repeat (first | exact trivial | refine ⟨rfl, ?_⟩)) (fun w hw => ?_)
              rw [stopC_succ hi2]
              exact hw.sub (by repeat (first | exact List.Sublist.refl _ | exact List.nil_sublist _ | apply List.Sublist.cons_cons | apply List.Sublist.cons))
            · try simp only [decide_eq_true_eq, decide_eq_false_iff_not, beq_iff_eq, beq_eq_false_iff_ne, bne_iff_ne, ne_eq, Bool.not_eq_true', Bool.not_eq_false', bne_eq_false_iff_eq, Bool.not_eq_eq_eq_not, Bool.not_true, Bool.not_false] at h80
              refine H.exit ?_
              refine H.then_exit ?_
              refine H.then_exit ?_
              refine H.blk_hit ?_
              refine H.then_normal ?_
              refine H.seq ?_
              refine H.block ?_
              have hilm : i = (stopL k a).length := by omega
              have hst := stop_state hk0 hk1 ha1
              simp only [stopChk, Bool.and_eq_true, beq_iff_eq, decide_eq_true_eq] at hst
              rw [← hilm] at hst
              obtain ⟨D, hD⟩ : ∃ D, D = stopC k a i := ⟨_, rfl⟩
              rw [← hD] at hst hpv ⊢
              obtain ⟨⟨⟨⟨⟨⟨d1, d2⟩, d3⟩, d4⟩, d5⟩, d6⟩, d7⟩ := hst
              refine H.loop (X := List Bs) (fun o => [(7, num k), (8, num c), (13, ptr b)]) (fun o => client b { D with out := o } :: cs) (fun _ => True) (fun o => o.length) D.out trivial (by repeat (first | exact trivial | refine ⟨rfl, ?_⟩)) (fun w hw => hw.sub (by repeat (first | exact List.Sublist.refl _ | exact List.nil_sublist _ | apply List.Sublist.cons_cons | apply List.Sublist.cons))) ?_
              intro o _
              refine H.block ?_
              refine H.seq ?_
              refine H.region ?_
              refine Ops.quiet (Qt.move rfl) rfl ?_
              refine Ops.eff (Ef.call (fok fab_all rfl Tryd.func14 rfl) rfl (spec_Next w0 b { D with out := o } _)) rfl ?_
              rintro _ c0 ⟨rfl, h0⟩; subst c0
              refine Ops.quiet (Qt.move rfl) rfl ?_
              refine Ops.quiet (Qt.extract rfl rfl) rfl ?_
              refine Ops.quiet (Qt.extract rfl rfl) rfl ?_
              refine Ops.quiet (Qt.assign rfl) rfl ?_
              refine Ops.quiet (Qt.assign rfl) rfl ?_
              refine Ops.nil ?_
              refine H.then_normal ?_
              refine H.seq ?_
              refine H.region ?_
              refine Ops.quiet (Qt.move rfl) rfl ?_
              refine Ops.quiet (Qt.not rfl) rfl ?_
              refine Ops.nil ?_
              refine H.then_normal ?_
              refine H.cond rfl (fun h96 => ?_) (fun h96 => ?_)
              · try simp only [decide_eq_true_eq, decide_eq_false_iff_not, beq_iff_eq, beq_eq_false_iff_ne, bne_iff_ne, ne_eq, Bool.not_eq_true', Bool.not_eq_false', bne_eq_false_iff_eq, Bool.not_eq_eq_eq_not, Bool.not_true, Bool.not_false] at h96
                refine H.exit ?_
                refine H.blk_miss rfl ?_
                refine H.then_exit ?_
                refine H.blk_hit ?_
                refine H.then_normal ?_
                refine H.seq ?_
                refine H.seq ?_
                have ho0 : o = [] := by
                  cases o with
                  | nil => rfl
                  | cons x l => simp at h96
                subst ho0
                refine H.region ?_
                refine Ops.quiet (Qt.move rfl) rfl ?_
                refine Ops.eff (Ef.call (fok fab_all rfl Tryd.func15 rfl) rfl (spec_Over w0 b { D with out := [] } _)) rfl ?_
                rintro _ c0 ⟨rfl, h0⟩; subst c0
                refine Ops.nil ?_
                refine H.then_normal ?_
                refine H.cond_false rfl (by exact d1) ?_
                refine H.skip ?_
                refine H.then_normal ?_
                refine H.seq ?_
                have hdl : (decB c).length ≤ 20 := decF_len 20 c
                have hdx : (decB c ++ sTail).length ≤ 100 := by simp; omega
                have hpo := hpv.o
                have hpr := hpv.r
                have hDi : Inv { D with out := [] } := Cl.out_inv hpv.inv
                have hwl : D.wait.length = 0 := by rw [d2]; rfl
                have hrl : D.rlines.length = 0 := by rw [d4]; rfl
                obtain ⟨wq, hwq⟩ := stop_fin (d := { D with out := [] }) (n := c) hc2 hc3 d1 d2 d3 d4 d7 (by show (c : Int) ≠ D.wanted; rw [d6]; exact h50)
                obtain ⟨Q, hQ⟩ : ∃ Q, Q = Cl.quit { ({ D with out := [] } : Cl) with wait := wq } c := ⟨_, rfl⟩
                have q1 : Q.out = [sQuit] := by rw [hQ]; rfl
                have q2 : Q.codes = List.replicate k (c : Int) := by rw [hQ]; show endC c D.codes = _; rw [d5]; simp [endC]
                have q3 : Q.over = true := by rw [hQ]; rfl
                rw [← hQ] at hwq
                have sF := fun (n : Nat) (A : Option Addr) (cap : Nat) (fr : List SProp) hr => spec_feed w0 hG b { D with out := [] } (decB c ++ sTail) (A := A) (n := n) (cap := cap) fr hr hDi (by show 0 + (D.wait.length + _) ≤ _; omega) (by show D.rlines.length + (D.wait.length + _) ≤ _; omega)
                rw [hwq] at sF
                refine H.region ?_
                refine Ops.quiet (Qt.move rfl) rfl ?_
                refine Ops.quiet (Qt.move rfl) rfl ?_
                refine Ops.eff (Ef.call (fok fab_all rfl Tryd.func19 rfl) rfl (spec_dec w0 c (by omega) _)) rfl ?_
                rintro _ c0 ⟨rfl, h0⟩; subst c0
                refine Ops.quiet (Qt.cat rfl rfl (by (try simp only [List.length_append, List.length_cons, List.length_nil]); omega)) rfl ?_
                refine Ops.eff (Ef.str_bytes (l := decB c ++ sTail) rfl (tk rfl) (tk rfl) (tk rfl) (by omega)) rfl ?_
                rintro _ _ ⟨A103, c103, rfl, rfl⟩
                refine Ops.eff (Ef.call (fok fab_all rfl Tryd.func10 rfl) rfl (Spec.conv (fun w hw => hw.perm (.swap _ _ _)) (sF _ _ _ _ (by repeat (first | assumption | exact Reads.of_head | apply Reads.tail))))) rfl ?_
                rintro _ c0 ⟨rfl, h0⟩; subst c0
                refine Ops.nil ?_
                refine H.then_normal ?_
                refine H.seq ?_
                obtain ⟨Z, hZ⟩ : ∃ Z : Cl, Z = { Q with out := [] } := ⟨_, rfl⟩
                have z1 : Z.out = [] := by rw [hZ]
                have z2 : Z.codes = List.replicate k (c : Int) := by rw [hZ]; exact q2
                have z3 : Z.over = true := by rw [hZ]; exact q3
                have z4 : ({ Q with out := Q.out.drop 1 } : Cl) = Z := by rw [hZ, q1]; rfl
                have z5 : ({ Z with out := Z.out.drop 1 } : Cl) = Z := by rw [hZ]; rfl
                have sN := fun fr => spec_Next w0 b Q fr
                have sC := fun fr => spec_Codes w0 b Z fr (by rw [z2, List.length_replicate]; omega)
                have sN2 := fun fr => spec_Next w0 b Z fr
                have sO := fun fr => spec_Over w0 b Z fr
                rw [z4, q1] at sN
                rw [z5, z1] at sN2
                rw [z2, List.length_replicate] at sC
                rw [z3] at sO
                clear z4 z5 hZ
                refine H.region ?_
                refine Ops.quiet (Qt.move rfl) rfl ?_
                refine Ops.eff (Ef.call (fok fab_all rfl Tryd.func14 rfl) rfl (sN _)) rfl ?_
                rintro _ c0 ⟨rfl, h0⟩; subst c0
                refine Ops.quiet (Qt.move rfl) rfl ?_
                refine Ops.quiet (Qt.extract rfl rfl) rfl ?_
                refine Ops.quiet (Qt.extract rfl rfl) rfl ?_
                refine Ops.quiet (Qt.assign rfl) rfl ?_
                refine Ops.quiet (Qt.assign rfl) rfl ?_
                refine Ops.nil ?_
                refine H.then_normal ?_
                refine H.seq ?_
                refine H.region ?_
                refine Ops.quiet (Qt.move rfl) rfl ?_
                refine Ops.eff (Ef.call (fok fab_all rfl Tryd.func16 rfl) rfl (sC _)) rfl ?_
                rintro _ _ ⟨A111, rfl, k111, rfl⟩
                refine Ops.quiet (Qt.assign rfl) rfl ?_
                refine Ops.nil ?_
                refine H.then_normal ?_
                refine H.seq ?_
                refine H.seq ?_
                refine H.region ?_
                refine Ops.quiet (Qt.assign rfl) rfl ?_
                refine Ops.nil ?_
                refine H.then_normal ?_
                refine H.block ?_
                refine H.loop (X := Nat) (fun m => [(7, num k), (8, num c), (13, ptr b), (19, str sQuit), (20, bol true), (21, .slice A111 k k), (22, num m)]) (fun m => client b Z :: osl 3 A111 k k111 ((List.replicate k (c : Int)).map num) :: cs) (fun m => m ≤ k) (fun m => k - m) 0 (Nat.zero_le _) (by repeat (first | exact trivial | refine ⟨rfl, ?_⟩)) (fun w hw => hw.sub (by repeat (first | exact List.Sublist.refl _ | exact List.nil_sublist _ | apply List.Sublist.cons_cons | apply List.Sublist.cons))) ?_
                intro m hm
                refine H.seq ?_
                refine H.seq ?_
                refine H.region ?_
                refine Ops.quiet (Qt.move rfl) rfl ?_
                refine Ops.quiet (Qt.move rfl) rfl ?_
                refine Ops.quiet (Qt.len_sl (ats := #[]) rfl (tk rfl)) rfl ?_
                refine Ops.quiet (Qt.lss rfl rfl) rfl ?_
                refine Ops.nil ?_
                refine H.then_normal ?_
                refine H.cond rfl (fun h115 => ?_) (fun h115 => ?_)
                · try simp only [decide_eq_true_eq, decide_eq_false_iff_not, beq_iff_eq, beq_eq_false_iff_ne, bne_iff_ne, ne_eq, Bool.not_eq_true', Bool.not_eq_false', bne_eq_false_iff_eq, Bool.not_eq_eq_eq_not, Bool.not_true, Bool.not_false] at h115
                  refine H.skip ?_
                  refine H.then_normal ?_
                  refine H.seq ?_
                  refine H.block ?_
                  refine H.seq ?_
                  have hm2 : m < k := by omega
                  have hmm : ((m : Int).toNat) < (List.replicate k (c : Int)).length := by rw [List.length_replicate]; exact hm2
                  have hmv : (List.replicate k (c : Int)).getD (m : Int).toNat 0 = c := by show (List.replicate k (c : Int)).getD m 0 = c; simp [List.getD_eq_getElem?_getD, hm2]
                  refine H.region ?_
                  refine Ops.quiet (Qt.move rfl) rfl ?_
                  refine Ops.quiet (Qt.move rfl) rfl ?_
                  refine Ops.quiet (Qt.indexAddr rfl rfl (tk rfl) (tk rfl) rfl (Reads.clip (c := k111) (xs := (List.replicate k (c : Int)).map num) (by repeat (first | assumption | exact Reads.of_head | apply Reads.tail))) (by omega) (by omega)) rfl ?_
                  refine Ops.quiet (Qt.load_map (0 : Int) rfl (tk rfl) rfl (Reads.clip (c := k111) (by repeat (first | assumption | exact Reads.of_head | apply Reads.tail))) (by exact hmm)) rfl ?_
                  refine Ops.quiet (Qt.move rfl) rfl ?_
                  refine Ops.quiet (Qt.neq rfl rfl) rfl ?_
                  refine Ops.nil ?_
                  refine H.then_normal ?_
                  refine H.cond_false rfl (by rw [hmv]; exact bne_self_eq_false _) ?_
                  refine H.skip ?_
                  refine H.blk_normal ?_
                  refine H.then_normal ?_
                  refine H.region ?_
                  refine Ops.quiet (Qt.move rfl) rfl ?_
                  refine Ops.quiet (Qt.addk rfl rfl (by first | exact IntWalk.i64_in _ (by omega) | exact IntWalk.u8_in _ (by omega) | exact IntWalk.u64_in _ (by omega) | exact IntWalk.u32_in _ (by omega) | exact IntWalk.u16_in _ (by omega))) rfl ?_
                  refine Ops.quiet (Qt.assign rfl) rfl ?_
                  refine Ops.nil ?_
                  refine H.then_normal ?_
                  refine H.round (m + 1) (by omega) (by omega) (by repeat (first | exact trivial | refine ⟨rfl, ?_⟩)) (fun w hw => hw)
                · try simp only [decide_eq_true_eq, decide_eq_false_iff_not, beq_iff_eq, beq_eq_false_iff_ne, bne_iff_ne, ne_eq, Bool.not_eq_true', Bool.not_eq_false', bne_eq_false_iff_eq, Bool.not_eq_eq_eq_not, Bool.not_true, Bool.not_false] at h115
                  refine H.exit ?_
                  refine H.then_exit ?_
                  refine H.then_exit ?_
                  refine H.blk_hit ?_
                  refine H.then_normal ?_
                  refine H.seq ?_
                  refine H.region ?_
                  refine Ops.quiet (Qt.move rfl) rfl ?_
                  refine Ops.eff (Ef.call (fok fab_all rfl Tryd.func14 rfl) rfl (sN2 _)) rfl ?_
                  rintro _ c0 ⟨rfl, h0⟩; subst c0
                  refine Ops.quiet (Qt.move rfl) rfl ?_
                  refine Ops.quiet (Qt.extract rfl rfl) rfl ?_
                  refine Ops.quiet (Qt.extract rfl rfl) rfl ?_
                  refine Ops.quiet (Qt.assign rfl) rfl ?_
                  refine Ops.quiet (Qt.assign rfl) rfl ?_
                  refine Ops.nil ?_
                  refine H.then_normal ?_
                  refine H.seq ?_
                  refine H.region ?_
                  refine Ops.eff (Ef.call (fok fab_all rfl Tryd.func7 rfl) rfl (spec_answers w0 hG _)) rfl ?_
                  rintro _ c0 ⟨rfl, h0⟩; subst c0
                  refine Ops.quiet (Qt.move rfl) rfl ?_
                  refine Ops.guard rfl rfl rfl rfl (fun g130 => ?_) (fun g130 => ?_)
                  · have g130' := g130
                    try simp only [decide_eq_true_eq, decide_eq_false_iff_not, beq_iff_eq, beq_eq_false_iff_ne, bne_iff_ne, ne_eq, Bool.not_eq_true', Bool.not_eq_false', bne_eq_false_iff_eq, Bool.not_eq_eq_eq_not, Bool.not_true, Bool.not_false] at g130'
                    refine Ops.quiet (Qt.move rfl) rfl ?_
                    refine Ops.quiet (Qt.pick_t rfl rfl g130) rfl ?_
                    refine Ops.quiet (Qt.move rfl) rfl ?_
                    refine Ops.guard rfl rfl rfl rfl (fun g133 => ?_) (fun g133 => ?_)
                    · have g133' := g133
                      try simp only [decide_eq_true_eq, decide_eq_false_iff_not, beq_iff_eq, beq_eq_false_iff_ne, bne_iff_ne, ne_eq, Bool.not_eq_true', Bool.not_eq_false', bne_eq_false_iff_eq, Bool.not_eq_eq_eq_not, Bool.not_true, Bool.not_false] at g133'
                      refine Ops.quiet (Qt.move rfl) rfl ?_
                      refine Ops.guard_yes rfl rfl rfl rfl g133 ?_
                      refine Ops.quiet (Qt.seq rfl rfl) rfl ?_
                      refine Ops.quiet (Qt.pick_t rfl rfl g133) rfl ?_
                      refine Ops.quiet (Qt.move rfl) rfl ?_
                      refine Ops.guard rfl rfl rfl rfl (fun g137 => ?_) (fun g137 => ?_)
                      · have g137' := g137
                        try simp only [decide_eq_true_eq, decide_eq_false_iff_not, beq_iff_eq, beq_eq_false_iff_ne, bne_iff_ne, ne_eq, Bool.not_eq_true', Bool.not_eq_false', bne_eq_false_iff_eq, Bool.not_eq_eq_eq_not, Bool.not_true, Bool.not_false] at g137'
                        refine Ops.quiet (Qt.move rfl) rfl ?_
                        refine Ops.guard_yes rfl rfl rfl rfl g137 ?_
                        refine Ops.quiet (Qt.not rfl) rfl ?_
                        refine Ops.quiet (Qt.pick_t rfl rfl g137) rfl ?_
                        refine Ops.quiet (Qt.move rfl) rfl ?_
                        refine Ops.guard rfl rfl rfl rfl (fun g141 => ?_) (fun g141 => ?_)
                        · have g141' := g141
                          try simp only [decide_eq_true_eq, decide_eq_false_iff_not, beq_iff_eq, beq_eq_false_iff_ne, bne_iff_ne, ne_eq, Bool.not_eq_true', Bool.not_eq_false', bne_eq_false_iff_eq, Bool.not_eq_eq_eq_not, Bool.not_true, Bool.not_false] at g141'
                          refine Ops.quiet (Qt.move rfl) rfl ?_
                          refine Ops.guard_yes rfl rfl rfl rfl g141 ?_
                          refine Ops.eff (Ef.call (fok fab_all rfl Tryd.func15 rfl) rfl (sO _)) rfl ?_
                          rintro _ c0 ⟨rfl, h0⟩; subst c0
                          refine Ops.quiet (Qt.pick_t rfl rfl g141) rfl ?_
                          refine Ops.quiet (Qt.move rfl) rfl ?_
                          refine Ops.guard rfl rfl rfl rfl (fun g145 => ?_) (fun g145 => ?_)
                          · have g145' := g145
                            try simp only [decide_eq_true_eq, decide_eq_false_iff_not, beq_iff_eq, beq_eq_false_iff_ne, bne_iff_ne, ne_eq, Bool.not_eq_true', Bool.not_eq_false', bne_eq_false_iff_eq, Bool.not_eq_eq_eq_not, Bool.not_true, Bool.not_false] at g145'
                            refine Ops.quiet (Qt.move rfl) rfl ?_
                            refine Ops.guard_yes rfl rfl rfl rfl g145 ?_
                            refine Ops.quiet (Qt.len_sl (ats := #[]) rfl (tk rfl)) rfl ?_
                            refine Ops.guard_yes rfl rfl rfl rfl g145 ?_
                            refine Ops.quiet (Qt.move rfl) rfl ?_
                            refine Ops.guard_yes rfl rfl rfl rfl g145 ?_
                            refine Ops.quiet (Qt.eql rfl rfl) rfl ?_
                            refine Ops.quiet (Qt.pick_t rfl rfl g145) rfl ?_
                            refine Ops.quiet (Qt.assign rfl) rfl ?_
                            refine Ops.nil ?_
                            refine H.then_normal ?_
                            refine H.ret ?_
                            refine (H.ends rfl (.cons (.tmp rfl) .nil) ?_)
                            exact congrArg bol (beq_self_eq_true _)
                          · have g145' := g145
                            try simp only [decide_eq_true_eq, decide_eq_false_iff_not, beq_iff_eq, beq_eq_false_iff_ne, bne_iff_ne, ne_eq, Bool.not_eq_true', Bool.not_eq_false', bne_eq_false_iff_eq, Bool.not_eq_eq_eq_not, Bool.not_true, Bool.not_false] at g145'
                            exact Bool.noConfusion g145
                        · have g141' := g141
                          try simp only [decide_eq_true_eq, decide_eq_false_iff_not, beq_iff_eq, beq_eq_false_iff_ne, bne_iff_ne, ne_eq, Bool.not_eq_true', Bool.not_eq_false', bne_eq_false_iff_eq, Bool.not_eq_eq_eq_not, Bool.not_true, Bool.not_false] at g141'
                          exact Bool.noConfusion g141
                      · have g137' := g137
                        try simp only [decide_eq_true_eq, decide_eq_false_iff_not, beq_iff_eq, beq_eq_false_iff_ne, bne_iff_ne, ne_eq, Bool.not_eq_true', Bool.not_eq_false', bne_eq_false_iff_eq, Bool.not_eq_eq_eq_not, Bool.not_true, Bool.not_false] at g137'
                        exact Bool.noConfusion g137
                    · have g133' := g133
                      try simp only [decide_eq_true_eq, decide_eq_false_iff_not, beq_iff_eq, beq_eq_false_iff_ne, bne_iff_ne, ne_eq, Bool.not_eq_true', Bool.not_eq_false', bne_eq_false_iff_eq, Bool.not_eq_eq_eq_not, Bool.not_true, Bool.not_false] at g133'
                      exact Bool.noConfusion g133
                  · have g130' := g130
                    try simp only [decide_eq_true_eq, decide_eq_false_iff_not, beq_iff_eq, beq_eq_false_iff_ne, bne_iff_ne, ne_eq, Bool.not_eq_true', Bool.not_eq_false', bne_eq_false_iff_eq, Bool.not_eq_eq_eq_not, Bool.not_true, Bool.not_false] at g130'
                    exact Bool.noConfusion g130
              · try simp only [decide_eq_true_eq, decide_eq_false_iff_not, beq_iff_eq, beq_eq_false_iff_ne, bne_iff_ne, ne_eq, Bool.not_eq_true', Bool.not_eq_false', bne_eq_false_iff_eq, Bool.not_eq_eq_eq_not, Bool.not_true, Bool.not_false] at h96
                refine H.skip ?_
                refine H.blk_normal ?_
                refine H.then_normal ?_
                have ho0 : 0 < o.length := by simpa using h96
                refine H.round (o.drop 1) trivial (by rw [List.length_drop]; omega) (by repeat (first | exact trivial | refine ⟨rfl, ?_⟩)) (fun w hw => hw)
          · try simp only [decide_eq_true_eq, decide_eq_false_iff_not, beq_iff_eq, beq_eq_false_iff_ne, bne_iff_ne, ne_eq, Bool.not_eq_true', Bool.not_eq_false', bne_eq_false_iff_eq, Bool.not_eq_eq_eq_not, Bool.not_true, Bool.not_false] at h73
            refine H.skip ?_
            refine H.then_normal ?_
            refine H.seq ?_
            refine H.seq ?_
            have el : ([sR2, sR5, sR5] ++ List.replicate k sR5) = stopL k a := by
              unfold stopL
              rw [if_neg (by omega), if_neg (by omega), List.append_nil]
            rw [el]
            refine H.env (ESub.ok (e' := [(7, num k), (8, num c), (13, ptr b), (14, .slice lA (3 + k) lc)]) (by repeat (first | exact trivial | refine ⟨rfl, ?_⟩))) ?_
            obtain ⟨lm, hlm0⟩ : ∃ x, x = 3 + k := ⟨_, rfl⟩
            rw [← hlm0]
            clear hlm0
            refine H.fact (fun w hw => Own.len (osl_reads (.head _)) hw) fun ⟨hlm, hlc, hl9⟩ => ?_
            simp only [List.length_map] at hlm
            refine H.region ?_
            refine Ops.quiet (Qt.assign rfl) rfl ?_
            refine Ops.nil ?_
            refine H.then_normal ?_
            refine H.block ?_
            refine H.loop (X := Nat) (fun i => [(7, num k), (8, num c), (13, ptr b), (14, .slice lA lm lc), (16, num i)]) (fun i => client b (stopC k a i) :: osl 9 lA lm lc ((stopL k a).map str) :: cs) (fun i => i ≤ lm) (fun i => lm - i) 0 (Nat.zero_le _) (by repeat (first | exact trivial | refine ⟨rfl, ?_⟩)) (fun w hw => hw.perm (.swap _ _ _)) ?_
            intro i hi
            have hpv := stopC_pv (a := a) hk1 i (by omega)
            have hsl := stopL_len k a
            refine H.seq ?_
            refine H.seq ?_
            refine H.region ?_
            refine Ops.quiet (Qt.move rfl) rfl ?_
            refine Ops.quiet (Qt.move rfl) rfl ?_
            refine Ops.quiet (Qt.len_sl (ats := #[]) rfl (tk rfl)) rfl ?_
            refine Ops.quiet (Qt.lss rfl rfl) rfl ?_
            refine Ops.nil ?_
            refine H.then_normal ?_
            refine H.cond rfl (fun h80 => ?_) (fun h80 => ?_)
            · try simp only [decide_eq_true_eq, decide_eq_false_iff_not, beq_iff_eq, beq_eq_false_iff_ne, bne_iff_ne, ne_eq, Bool.not_eq_true', Bool.not_eq_false', bne_eq_false_iff_eq, Bool.not_eq_eq_eq_not, Bool.not_true, Bool.not_false] at h80
              refine H.skip ?_
              refine H.then_normal ?_
              refine H.seq ?_
              refine H.block ?_
              have hi2 : i < (stopL k a).length := by
                have h9 : (i : Int) < lm := h80
                omega
              have hxl : ((stopL k a).getD (i : Int).toNat []).length ≤ 7 := stopL_sm k a _ (by show (stopL k a).getD i [] ∈ _; rw [List.getD_eq_getElem?_getD, List.getElem?_eq_getElem hi2]; simp)
              have hpo := hpv.o
              have hpr := hpv.r
              refine H.region ?_
              refine Ops.quiet (Qt.move rfl) rfl ?_
              refine Ops.quiet (Qt.move rfl) rfl ?_
              refine Ops.quiet (Qt.move rfl) rfl ?_
              refine Ops.quiet (Qt.indexAddr rfl rfl (tk rfl) (tk rfl) rfl (by repeat (first | assumption | exact Reads.of_head | apply Reads.tail)) (by omega) (by omega)) rfl ?_
              refine Ops.quiet (Qt.load_map ([] : List UInt8) rfl (tk rfl) rfl (by repeat (first | assumption | exact Reads.of_head | apply Reads.tail)) (by omega)) rfl ?_
              refine Ops.eff (Ef.str_bytes rfl (tk rfl) (tk rfl) (tk rfl) (by omega)) rfl ?_
              rintro _ _ ⟨A88, c88, rfl, rfl⟩
              refine Ops.eff (Ef.call (fok fab_all rfl Tryd.func10 rfl) rfl (Spec.conv (fun w hw => hw.perm (.swap _ _ _)) (spec_feed w0 hG b (stopC k a i) ((stopL k a).getD (i : Int).toNat []) _ (by repeat (first | assumption | exact Reads.of_head | apply Reads.tail)) hpv.inv (by omega) (by omega)))) rfl ?_
              rintro _ c0 ⟨rfl, h0⟩; subst c0
              refine Ops.nil ?_
              refine H.blk_normal ?_
              refine H.then_normal ?_
              refine H.region ?_
              refine Ops.quiet (Qt.move rfl) rfl ?_
              refine Ops.quiet (Qt.addk rfl rfl (by first | exact IntWalk.i64_in _ (by omega) | exact IntWalk.u8_in _ (by omega) | exact IntWalk.u64_in _ (by omega) | exact IntWalk.u32_in _ (by omega) | exact IntWalk.u16_in _ (by omega))) rfl ?_
              refine Ops.quiet (Qt.assign rfl) rfl ?_
              refine Ops.nil ?_
              refine H.then_normal ?_
              refine H.round (i + 1) (by omega) (by omega) (by repeat (first | exact trivial | refine ⟨rfl, ?_⟩)) (fun w hw => ?_)
              rw [stopC_succ hi2]
              exact hw.sub (by repeat (first | exact List.Sublist.refl _ | exact List.nil_sublist _ | apply List.Sublist.cons_cons | apply List.Sublist.cons))
            · try simp only [decide_eq_true_eq, decide_eq_false_iff_not, beq_iff_eq, beq_eq_false_iff_ne, bne_iff_ne, ne_eq, Bool.not_eq_true', Bool.not_eq_false', bne_eq_false_iff_eq, Bool.not_eq_eq_eq_not, Bool.not_true, Bool.not_false] at h80
              refine H.exit ?_
              refine H.then_exit ?_
              refine H.then_exit ?_
              refine H.blk_hit ?_
              refine H.then_normal ?_
              refine H.seq ?_
              refine H.block ?_
              have hilm : i = (stopL k a).length := by omega
              have hst := stop_state hk0 hk1 ha1
              simp only [stopChk, Bool.and_eq_true, beq_iff_eq, decide_eq_true_eq] at hst
              rw [← hilm] at hst
              obtain ⟨D, hD⟩ : ∃ D, D = stopC k a i := ⟨_, rfl⟩
              rw [← hD] at hst hpv ⊢
              obtain ⟨⟨⟨⟨⟨⟨d1, d2⟩, d3⟩, d4⟩, d5⟩, d6⟩, d7⟩ := hst
              refine H.loop (X := List Bs) (fun o => [(7, num k), (8, num c), (13, ptr b)]) (fun o => client b { D with out := o } :: cs) (fun _ => True) (fun o => o.length) D.out trivial (by repeat (first | exact trivial | refine ⟨rfl, ?_⟩)) (fun w hw => hw.sub (by repeat (first | exact List.Sublist.refl _ | exact List.nil_sublist _ | apply List.Sublist.cons_cons | apply List.Sublist.cons))) ?_
              intro o _
              refine H.block ?_
              refine H.seq ?_
              refine H.region ?_
              refine Ops.quiet (Qt.move rfl) rfl ?_
              refine Ops.eff (Ef.call (fok fab_all rfl Tryd.func14 rfl) rfl (spec_Next w0 b { D with out := o } _)) rfl ?_
              rintro _ c0 ⟨rfl, h0⟩; subst c0
              refine Ops.quiet (Qt.move rfl) rfl ?_
              refine Ops.quiet (Qt.extract rfl rfl) rfl ?_
              refine Ops.quiet (Qt.extract rfl rfl) rfl ?_
              refine Ops.quiet (Qt.assign rfl) rfl ?_
              refine Ops.quiet (Qt.assign rfl) rfl ?_
              refine Ops.nil ?_
              refine H.then_normal ?_
              refine H.seq ?_
              refine H.region ?_
              refine Ops.quiet (Qt.move rfl) rfl ?_
              refine Ops.quiet (Qt.not rfl) rfl ?_
              refine Ops.nil ?_
              refine H.then_normal ?_
              refine H.cond rfl (fun h96 => ?_) (fun h96 => ?_)
              · try simp only [decide_eq_true_eq, decide_eq_false_iff_not, beq_iff_eq, beq_eq_false_iff_ne, bne_iff_ne, ne_eq, Bool.not_eq_true', Bool.not_eq_false', bne_eq_false_iff_eq, Bool.not_eq_eq_eq_not, Bool.not_true, Bool.not_false] at h96
                refine H.exit ?_
                refine H.blk_miss rfl ?_
                refine H.then_exit ?_
                refine H.blk_hit ?_
                refine H.then_normal ?_
                refine H.seq ?_
                refine H.seq ?_
                have ho0 : o = [] := by
                  cases o with
                  | nil => rfl
                  | cons x l => simp at h96
                subst ho0
                refine H.region ?_
                refine Ops.quiet (Qt.move rfl) rfl ?_
                refine Ops.eff (Ef.call (fok fab_all rfl Tryd.func15 rfl) rfl (spec_Over w0 b { D with out := [] } _)) rfl ?_
                rintro _ c0 ⟨rfl, h0⟩; subst c0
                refine Ops.nil ?_
                refine H.then_normal ?_
                refine H.cond_false rfl (by exact d1) ?_
                refine H.skip ?_
                refine H.then_normal ?_
                refine H.seq ?_
                have hdl : (decB c).length ≤ 20 := decF_len 20 c
                have hdx : (decB c ++ sTail).length ≤ 100 := by simp; omega
                have hpo := hpv.o
                have hpr := hpv.r
                have hDi : Inv { D with out := [] } := Cl.out_inv hpv.inv
                have hwl : D.wait.length = 0 := by rw [d2]; rfl
                have hrl : D.rlines.length = 0 := by rw [d4]; rfl
                obtain ⟨wq, hwq⟩ := stop_fin (d := { D with out := [] }) (n := c) hc2 hc3 d1 d2 d3 d4 d7 (by show (c : Int) ≠ D.wanted; rw [d6]; exact h50)
                obtain ⟨Q, hQ⟩ : ∃ Q, Q = Cl.quit { ({ D with out := [] } : Cl) with wait := wq } c := ⟨_, rfl⟩
                have q1 : Q.out = [sQuit] := by rw [hQ]; rfl
                have q2 : Q.codes = List.replicate k (c : Int) := by rw [hQ]; show endC c D.codes = _; rw [d5]; simp [endC]
                have q3 : Q.over = true := by rw [hQ]; rfl
                rw [← hQ] at hwq
                have sF := fun (n : Nat) (A : Option Addr) (cap : Nat) (fr : List SProp) hr => spec_feed w0 hG b { D with out := [] } (decB c ++ sTail) (A := A) (n := n) (cap := cap) fr hr hDi (by show 0 + (D.wait.length + _) ≤ _; omega) (by show D.rlines.length + (D.wait.length + _) ≤ _; omega)
                rw [hwq] at sF
                refine H.region ?_
                refine Ops.quiet (Qt.move rfl) rfl ?_
                refine Ops.quiet (Qt.move rfl) rfl ?_
                refine Ops.eff (Ef.call (fok fab_all rfl Tryd.func19 rfl) rfl (spec_dec w0 c (by omega) _)) rfl ?_
                rintro _ c0 ⟨rfl, h0⟩; subst c0
                refine Ops.quiet (Qt.cat rfl rfl (by (try simp only [List.length_append, List.length_cons, List.length_nil]); omega)) rfl ?_
                refine Ops.eff (Ef.str_bytes (l := decB c ++ sTail) rfl (tk rfl) (tk rfl) (tk rfl) (by omega)) rfl ?_
                rintro _ _ ⟨A103, c103, rfl, rfl⟩
                refine Ops.eff (Ef.call (fok fab_all rfl Tryd.func10 rfl) rfl (Spec.conv (fun w hw => hw.perm (.swap _ _ _)) (sF _ _ _ _ (by repeat (first | assumption | exact Reads.of_head | apply Reads.tail))))) rfl ?_
                rintro _ c0 ⟨rfl, h0⟩; subst c0
                refine Ops.nil ?_
                refine H.then_normal ?_
                refine H.seq ?_
                obtain ⟨Z, hZ⟩ : ∃ Z : Cl, Z = { Q with out := [] } := ⟨_, rfl⟩
                have z1 : Z.out = [] := by rw [hZ]
                have z2 : Z.codes = List.replicate k (c : Int) := by rw [hZ]; exact q2
                have z3 : Z.over = true := by rw [hZ]; exact q3
                have z4 : ({ Q with out := Q.out.drop 1 } : Cl) = Z := by rw [hZ, q1]; rfl
                have z5 : ({ Z with out := Z.out.drop 1 } : Cl) = Z := by rw [hZ]; rfl
                have sN := fun fr => spec_Next w0 b Q fr
                have sC := fun fr => spec_Codes w0 b Z fr (by rw [z2, List.length_replicate]; omega)
                have sN2 := fun fr => spec_Next w0 b Z fr
                have sO := fun fr => spec_Over w0 b Z fr
                rw [z4, q1] at sN
                rw [z5, z1] at sN2
                rw [z2, List.length_replicate] at sC
                rw [z3] at sO
                clear z4 z5 hZ
                refine H.region ?_
                refine Ops.quiet (Qt.move rfl) rfl ?_
                refine Ops.eff (Ef.call (fok fab_all rfl Tryd.func14 rfl) rfl (sN _)) rfl ?_
                rintro _ c0 ⟨rfl, h0⟩; subst c0
                refine Ops.quiet (Qt.move rfl) rfl ?_
                refine Ops.quiet (Qt.extract rfl rfl) rfl ?_
                refine Ops.quiet (Qt.extract rfl rfl) rfl ?_
                refine Ops.quiet (Qt.assign rfl) rfl ?_
                refine Ops.quiet (Qt.assign rfl) rfl ?_
                refine Ops.nil ?_
                refine H.then_normal ?_
                refine H.seq ?_
                refine H.region ?_
                refine Ops.quiet (Qt.move rfl) rfl ?_
                refine Ops.eff (Ef.call (fok fab_all rfl Tryd.func16 rfl) rfl (sC _)) rfl ?_
                rintro _ _ ⟨A111, rfl, k111, rfl⟩
                refine Ops.quiet (Qt.assign rfl) rfl ?_
                refine Ops.nil ?_
                refine H.then_normal ?_
                refine H.seq ?_
                refine H.seq ?_
                refine H.region ?_
                refine Ops.quiet (Qt.assign rfl) rfl ?_
                refine Ops.nil ?_
                refine H.then_normal ?_
                refine H.block ?_
                refine H.loop (X := Nat) (fun m => [(7, num k), (8, num c), (13, ptr b), (19, str sQuit), (20, bol true), (21, .slice A111 k k), (22, num m)]) (fun m => client b Z :: osl 3 A111 k k111 ((List.replicate k (c : Int)).map num) :: cs) (fun m => m ≤ k) (fun m => k - m) 0 (Nat.zero_le _) (by repeat (first | exact trivial | refine ⟨rfl, ?_⟩)) (fun w hw => hw.sub (by repeat (first | exact List.Sublist.refl _ | exact List.nil_sublist _ | apply List.Sublist.cons_cons | apply List.Sublist.cons))) ?_
                intro m hm
                refine H.seq ?_
                refine H.seq ?_
                refine H.region ?_
                refine Ops.quiet (Qt.move rfl) rfl ?_
                refine Ops.quiet (Qt.move rfl) rfl ?_
                refine Ops.quiet (Qt.len_sl (ats := #[]) rfl (tk rfl)) rfl ?_
                refine Ops.quiet (Qt.lss rfl rfl) rfl ?_
                refine Ops.nil ?_
                refine H.then_normal ?_
                refine H.cond rfl (fun h115 => ?_) (fun h115 => ?_)
                · try simp only [decide_eq_true_eq, decide_eq_false_iff_not, beq_iff_eq, beq_eq_false_iff_ne, bne_iff_ne, ne_eq, Bool.not_eq_true', Bool.not_eq_false', bne_eq_false_iff_eq, Bool.not_eq_eq_eq_not, Bool.not_true, Bool.not_false] at h115
                  refine H.skip ?_
                  refine H.then_normal ?_
                  refine H.seq ?_
                  refine H.block ?_
                  refine H.seq ?_
                  have hm2 : m < k := by omega
                  have hmm : ((m : Int).toNat) < (List.replicate k (c : Int)).length := by rw [List.length_replicate]; exact hm2
                  have hmv : (List.replicate k (c : Int)).getD (m : Int).toNat 0 = c := by show (List.replicate k (c : Int)).getD m 0 = c; simp [List.getD_eq_getElem?_getD, hm2]
                  refine H.region ?_
                  refine Ops.quiet (Qt.move rfl) rfl ?_
                  refine Ops.quiet (Qt.move rfl) rfl ?_
                  refine Ops.quiet (Qt.indexAddr rfl rfl (tk rfl) (tk rfl) rfl (Reads.clip (c := k111) (xs := (List.replicate k (c : Int)).map num) (by repeat (first | assumption | exact Reads.of_head | apply Reads.tail))) (by omega) (by omega)) rfl ?_
                  refine Ops.quiet (Qt.load_map (0 : Int) rfl (tk rfl) rfl (Reads.clip (c := k111) (by repeat (first | assumption | exact Reads.of_head | apply Reads.tail))) (by exact hmm)) rfl ?_
                  refine Ops.quiet (Qt.move rfl) rfl ?_
                  refine Ops.quiet (Qt.neq rfl rfl) rfl ?_
                  refine Ops.nil ?_
                  refine H.then_normal ?_
                  refine H.cond_false rfl (by rw [hmv]; exact bne_self_eq_false _) ?_
                  refine H.skip ?_
                  refine H.blk_normal ?_
                  refine H.then_normal ?_
                  refine H.region ?_
                  refine Ops.quiet (Qt.move rfl) rfl ?_
                  refine Ops.quiet (Qt.addk rfl rfl (by first | exact IntWalk.i64_in _ (by omega) | exact IntWalk.u8_in _ (by omega) | exact IntWalk.u64_in _ (by omega) | exact IntWalk.u32_in _ (by omega) | exact IntWalk.u16_in _ (by omega))) rfl ?_
                  refine Ops.quiet (Qt.assign rfl) rfl ?_
                  refine Ops.nil ?_
                  refine H.then_normal ?_
                  refine H.round (m + 1) (by omega) (by omega) (by repeat (first | exact trivial | refine ⟨rfl, ?_⟩)) (fun w hw => hw)
                · try simp only [decide_eq_true_eq, decide_eq_false_iff_not, beq_iff_eq, beq_eq_false_iff_ne, bne_iff_ne, ne_eq, Bool.not_eq_true', Bool.not_eq_false', bne_eq_false_iff_eq, Bool.not_eq_eq_eq_not, Bool.not_true, Bool.not_false] at h115
                  refine H.exit ?_
                  refine H.then_exit ?_
                  refine H.then_exit ?_
                  refine H.blk_hit ?_
                  refine H.then_normal ?_
                  refine H.seq ?_
                  refine H.region ?_
                  refine Ops.quiet (Qt.move rfl) rfl ?_
                  refine Ops.eff (Ef.call (fok fab_all rfl Tryd.func14 rfl) rfl (sN2 _)) rfl ?_
                  rintro _ c0 ⟨rfl, h0⟩; subst c0
                  refine Ops.quiet (Qt.move rfl) rfl ?_
                  refine Ops.quiet (Qt.extract rfl rfl) rfl ?_
                  refine Ops.quiet (Qt.extract rfl rfl) rfl ?_
                  refine Ops.quiet (Qt.assign rfl) rfl ?_
                  refine Ops.quiet (Qt.assign rfl) rfl ?_
                  refine Ops.nil ?_
                  refine H.then_normal ?_
                  refine H.seq ?_
                  refine H.region ?_
                  refine Ops.eff (Ef.call (fok fab_all rfl Tryd.func7 rfl) rfl (spec_answers w0 hG _)) rfl ?_
                  rintro _ c0 ⟨rfl, h0⟩; subst c0
                  refine Ops.quiet (Qt.move rfl) rfl ?_
                  refine Ops.guard rfl rfl rfl rfl (fun g130 => ?_) (fun g130 => ?_)
                  · have g130' := g130
                    try simp only [decide_eq_true_eq, decide_eq_false_iff_not, beq_iff_eq, beq_eq_false_iff_ne, bne_iff_ne, ne_eq, Bool.not_eq_true', Bool.not_eq_false', bne_eq_false_iff_eq, Bool.not_eq_eq_eq_not, Bool.not_true, Bool.not_false] at g130'
                    refine Ops.quiet (Qt.move rfl) rfl ?_
                    refine Ops.quiet (Qt.pick_t rfl rfl g130) rfl ?_
                    refine Ops.quiet (Qt.move rfl) rfl ?_
                    refine Ops.guard rfl rfl rfl rfl (fun g133 => ?_) (fun g133 => ?_)
                    · have g133' := g133
                      try simp only [decide_eq_true_eq, decide_eq_false_iff_not, beq_iff_eq, beq_eq_false_iff_ne, bne_iff_ne, ne_eq, Bool.not_eq_true', Bool.not_eq_false', bne_eq_false_iff_eq, Bool.not_eq_eq_eq_not, Bool.not_true, Bool.not_false] at g133'
                      refine Ops.quiet (Qt.move rfl) rfl ?_
                      refine Ops.guard_yes rfl rfl rfl rfl g133 ?_
                      refine Ops.quiet (Qt.seq rfl rfl) rfl ?_
                      refine Ops.quiet (Qt.pick_t rfl rfl g133) rfl ?_
                      refine Ops.quiet (Qt.move rfl) rfl ?_
                      refine Ops.guard rfl rfl rfl rfl (fun g137 => ?_) (fun g137 => ?_)
                      · have g137' := g137
                        try simp only [decide_eq_true_eq, decide_eq_false_iff_not, beq_iff_eq, beq_eq_false_iff_ne, bne_iff_ne, ne_eq, Bool.not_eq_true', Bool.not_eq_false', bne_eq_false_iff_eq, Bool.not_eq_eq_eq_not, Bool.not_true, Bool.not_false] at g137'
                        refine Ops.quiet (Qt.move rfl) rfl ?_
                        refine Ops.guard_yes rfl rfl rfl rfl g137 ?_
                        refine Ops.quiet (Qt.not rfl) rfl ?_
                        refine Ops.quiet (Qt.pick_t rfl rfl g137) rfl ?_
                        refine Ops.quiet (Qt.move rfl) rfl ?_
                        refine Ops.guard rfl rfl rfl rfl (fun g141 => ?_) (fun g141 => ?_)
                        · have g141' := g141
                          try simp only [decide_eq_true_eq, decide_eq_false_iff_not, beq_iff_eq, beq_eq_false_iff_ne, bne_iff_ne, ne_eq, Bool.not_eq_true', Bool.not_eq_false', bne_eq_false_iff_eq, Bool.not_eq_eq_eq_not, Bool.not_true, Bool.not_false] at g141'
                          refine Ops.quiet (Qt.move rfl) rfl ?_
                          refine Ops.guard_yes rfl rfl rfl rfl g141 ?_
                          refine Ops.eff (Ef.call (fok fab_all rfl Tryd.func15 rfl) rfl (sO _)) rfl ?_
                          rintro _ c0 ⟨rfl, h0⟩; subst c0
                          refine Ops.quiet (Qt.pick_t rfl rfl g141) rfl ?_
                          refine Ops.quiet (Qt.move rfl) rfl ?_
                          refine Ops.guard rfl rfl rfl rfl (fun g145 => ?_) (fun g145 => ?_)
                          · have g145' := g145
                            try simp only [decide_eq_true_eq, decide_eq_false_iff_not, beq_iff_eq, beq_eq_false_iff_ne, bne_iff_ne, ne_eq, Bool.not_eq_true', Bool.not_eq_false', bne_eq_false_iff_eq, Bool.not_eq_eq_eq_not, Bool.not_true, Bool.not_false] at g145'
                            refine Ops.quiet (Qt.move rfl) rfl ?_
                            refine Ops.guard_yes rfl rfl rfl rfl g145 ?_
                            refine Ops.quiet (Qt.len_sl (ats := #[]) rfl (tk rfl)) rfl ?_
                            refine Ops.guard_yes rfl rfl rfl rfl g145 ?_
                            refine Ops.quiet (Qt.move rfl) rfl ?_
                            refine Ops.guard_yes rfl rfl rfl rfl g145 ?_
                            refine Ops.quiet (Qt.eql rfl rfl) rfl ?_
                            refine Ops.quiet (Qt.pick_t rfl rfl g145) rfl ?_
                            refine Ops.quiet (Qt.assign rfl) rfl ?_
                            refine Ops.nil ?_
                            refine H.then_normal ?_
                            refine H.ret ?_
                            refine (H.ends rfl (.cons (.tmp rfl) .nil) ?_)
                            exact congrArg bol (beq_self_eq_true _)
                          · have g145' := g145
                            try simp only [decide_eq_true_eq, decide_eq_false_iff_not, beq_iff_eq, beq_eq_false_iff_ne, bne_iff_ne, ne_eq, Bool.not_eq_true', Bool.not_eq_false', bne_eq_false_iff_eq, Bool.not_eq_eq_eq_not, Bool.not_true, Bool.not_false] at g145'
                            exact Bool.noConfusion g145
                        · have g141' := g141
                          try simp only [decide_eq_true_eq, decide_eq_false_iff_not, beq_iff_eq, beq_eq_false_iff_ne, bne_iff_ne, ne_eq, Bool.not_eq_true', Bool.not_eq_false', bne_eq_false_iff_eq, Bool.not_eq_eq_eq_not, Bool.not_true, Bool.not_false] at g141'
                          exact Bool.noConfusion g141
                      · have g137' := g137
                        try simp only [decide_eq_true_eq, decide_eq_false_iff_not, beq_iff_eq, beq_eq_false_iff_ne, bne_iff_ne, ne_eq, Bool.not_eq_true', Bool.not_eq_false', bne_eq_false_iff_eq, Bool.not_eq_eq_eq_not, Bool.not_true, Bool.not_false] at g137'
                        exact Bool.noConfusion g137
                    · have g133' := g133
                      try simp only [decide_eq_true_eq, decide_eq_false_iff_not, beq_iff_eq, beq_eq_false_iff_ne, bne_iff_ne, ne_eq, Bool.not_eq_true', Bool.not_eq_false', bne_eq_false_iff_eq, Bool.not_eq_eq_eq_not, Bool.not_true, Bool.not_false] at g133'
                      exact Bool.noConfusion g133
                  · have g130' := g130
                    try simp only [decide_eq_true_eq, decide_eq_false_iff_not, beq_iff_eq, beq_eq_false_iff_ne, bne_iff_ne, ne_eq, Bool.not_eq_true', Bool.not_eq_false', bne_eq_false_iff_eq, Bool.not_eq_eq_eq_not, Bool.not_true, Bool.not_false] at g130'
                    exact Bool.noConfusion g130
              · try simp only [decide_eq_true_eq, decide_eq_false_iff_not, beq_iff_eq, beq_eq_false_iff_ne, bne_iff_ne, ne_eq, Bool.not_eq_true', Bool.not_eq_false', bne_eq_false_iff_eq, Bool.not_eq_eq_eq_not, Bool.not_true, Bool.not_false] at h96
                refine H.skip ?_
                refine H.blk_normal ?_
                refine H.then_normal ?_
                have ho0 : 0 < o.length := by simpa using h96
                refine H.round (o.drop 1) trivial (by rw [List.length_drop]; omega) (by repeat (first | exact trivial | refine ⟨rfl, ?_⟩)) (fun w hw => hw)
end Go.Proofs.YtimldpbddkhedaaDoor
