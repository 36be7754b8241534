/- The session with the next hop: New. -/
import Derived.Test.YtimldpbddkhedaaDoorSfd
import Derived.Test.YtimldpbddkhedaaDoorBld
namespace Go.Proofs.YtimldpbddkhedaaDoor
open Go Go.RowKit
set_option maxRecDepth 100000
set_option linter.unusedVariables false
set_option linter.unusedSimpArgs false
attribute [local irreducible] Go.wpList Go.Code.wp Go.Exit.then Go.Exit.inBlock Go.Exit.noGoto Ends blk osl oblk LoopI Own Spec
def Cl.new0 (host frm : Bs) (targets : List Bs) : Cl := ⟨host, frm, targets, [], [], 0, [], [], 0, 0, List.replicate targets.length 0, false⟩
def Cl.new (host frm : Bs) (targets body : List Bs) : Cl :=
  if (stuffV body).2 ≠ 0 ∨ targets.length = 0 ∨ 50 < targets.length then Cl.fin { Cl.new0 host frm targets with body := (stuffV body).1 } 554 else { Cl.new0 host frm targets with body := (stuffV body).1 }
theorem pack5 {w0 w : World} {et : TypeId} {B C M L R : SProp} {cs : List SProp} (h : Own w0 w (B :: C :: M :: L :: R :: cs)) : Own w0 w (B :: C :: osl et none 0 0 [] :: M :: L :: R :: cs) :=
  (Own.nil_osl et h).perm (List.perm_middle (l₁ := [B, C])).symm
theorem p111 {M R L C : SProp} {cs : List SProp} : (M :: R :: L :: C :: cs).Perm (C :: M :: L :: R :: cs) := (List.perm_middle (l₁ := [M, R, L])).trans (.cons _ (.cons _ (.swap _ _ _)))
theorem p112 {M R L C : SProp} {cs : List SProp} : (R :: M :: L :: C :: cs).Perm (C :: M :: L :: R :: cs) := (List.Perm.swap _ _ _).trans p111
theorem p12 {M R L C : SProp} {cs : List SProp} : (R :: L :: M :: C :: cs).Perm (C :: M :: L :: R :: cs) := (List.perm_middle (l₁ := [R, L]) (l₂ := C :: cs)).trans p111
theorem p2 {M R L C : SProp} {cs : List SProp} : (R :: L :: C :: M :: cs).Perm (C :: M :: L :: R :: cs) := (List.perm_middle (l₁ := [R, L, C]) (l₂ := cs)).trans p111
theorem spec_new (w0 : World) (host frm : Bs) (targets body : List Bs) {tA bA : Option Addr} {tn tc bn bc : Nat} (cs : List SProp) (ht : Reads w0 cs tA tn tc (targets.map str)) (hb : Reads w0 cs bA bn bc (body.map str)) (htl : targets.length ≤ 1000000) (hbl : body.length ≤ 1000000000000) :
    Spec Tryd.prog w0 8 [str host, str frm, .slice tA tn tc, .slice bA bn bc] cs (fun v cs' => ∃ b, v = ptr b ∧ cs' = client b (Cl.new host frm targets body) :: cs) := by
  refine Spec.of_body Tryd.func8 rfl Tryd.ntmps8 rfl ?_
  refine H.fact (fun w hw => (ht w hw).facts) fun ⟨hl, hcap, hmax, hnil⟩ => ?_
  simp only [List.length_map] at hl
  subst hl
  refine H.seq ?_
  refine H.region ?_
  refine Ops.quiet (Qt.assign rfl) rfl ?_
  refine Ops.nil ?_
  refine H.then_normal ?_
  refine H.seq ?_
  refine H.drawn_all 9 mixed (by kernel_rfl) ?_
  refine Hd.quiet 0 (by kernel_rfl) rfl rfl (by kernel_rfl) rfl (Qt.move rfl) ?_
  refine Hd.quiet 1 (by kernel_rfl) rfl rfl (by kernel_rfl) rfl (Qt.move rfl) ?_
  refine Hd.quiet 2 (by kernel_rfl) rfl rfl (by kernel_rfl) rfl (Qt.move rfl) ?_
  refine Hd.quiet 6 (by kernel_rfl) rfl rfl (by kernel_rfl) rfl (Qt.move rfl) ?_
  refine Hd.quiet 7 (by kernel_rfl) rfl rfl (by kernel_rfl) rfl (Qt.len_sl (ats := #[]) rfl (tk rfl)) ?_
  refine Hd.eff2 3 8 (by intro w hw; first | exact hw | exact Own.sub (by repeat (first | exact List.Sublist.refl _ | exact List.nil_sublist _ | apply List.Sublist.cons_cons | apply List.Sublist.cons)) hw) rfl rfl (by kernel_rfl) (by kernel_rfl) (by kernel_rfl) rfl rfl (Ef.call (fok fab_all rfl Tryd.func20 rfl) rfl (spec_sclone (by repeat (first | assumption | exact Reads.of_head | apply Reads.tail)) (by omega))) (Ef.makeSlice (f := num) (b := 0) rfl rfl (tk rfl) (tk rfl) rfl (zk rfl) (fun _ => rfl) (by omega) (by omega) (by simp; omega) (by omega)) ?_ ?_
  · rintro _ _ ⟨A15, c15, rfl, rfl⟩
    refine Hd.eff2 4 8 (by intro w hw; first | exact hw | exact Own.sub (by repeat (first | exact List.Sublist.refl _ | exact List.nil_sublist _ | apply List.Sublist.cons_cons | apply List.Sublist.cons)) hw) rfl rfl (by kernel_rfl) (by kernel_rfl) (by kernel_rfl) rfl rfl (Ef.call (fok fab_all rfl Tryd.func21 rfl) rfl (spec_lnew w0 _)) (Ef.makeSlice (f := num) (b := 0) rfl rfl (tk rfl) (tk rfl) rfl (zk rfl) (fun _ => rfl) (by omega) (by omega) (by simp; omega) (by omega)) ?_ ?_
    · rintro _ _ ⟨lp, rfl, rfl⟩
      refine Hd.eff2 5 8 (by intro w hw; first | exact hw | exact Own.sub (by repeat (first | exact List.Sublist.refl _ | exact List.nil_sublist _ | apply List.Sublist.cons_cons | apply List.Sublist.cons)) hw) rfl rfl (by kernel_rfl) (by kernel_rfl) (by kernel_rfl) rfl rfl (Ef.call (fok fab_all rfl Tryd.func22 rfl) rfl (spec_rnew w0 _)) (Ef.makeSlice (f := num) (b := 0) rfl rfl (tk rfl) (tk rfl) rfl (zk rfl) (fun _ => rfl) (by omega) (by omega) (by simp; omega) (by omega)) ?_ ?_
      · rintro _ _ ⟨rp, rfl, rfl⟩
        refine Hd.eff 8 (by intro w hw; first | exact hw | exact Own.sub (by repeat (first | exact List.Sublist.refl _ | exact List.nil_sublist _ | apply List.Sublist.cons_cons | apply List.Sublist.cons)) hw) rfl rfl (by kernel_rfl) rfl (Ef.makeSlice (f := num) (b := 0) rfl rfl (tk rfl) (tk rfl) rfl (zk rfl) (fun _ => rfl) (by omega) (by omega) (by simp; omega) (by omega)) ?_
        rintro _ _ ⟨A20, rfl, rfl⟩
        refine Hd.tail (by intro w hw; first | exact hw | exact Own.sub (by repeat (first | exact List.Sublist.refl _ | exact List.nil_sublist _ | apply List.Sublist.cons_cons | apply List.Sublist.cons)) hw) (by kernel_rfl) rfl ?_
        refine Ops.quiet (Qt.build (tk rfl) (zk rfl) rfl (by rfl)) rfl ?_
        refine Ops.eff (Ef.box rfl rfl) rfl ?_
        rintro _ _ ⟨b22, rfl, rfl⟩
        refine Ops.quiet (Qt.assign rfl) rfl ?_
        refine Ops.nil ?_
        refine H.then_normal ?_
        refine H.seq ?_
        refine H.conv (fun w hw => client_mk (Cl.new0 host frm targets) (pack5 (hw.perm (.cons _ p111)))) ?_
        refine H.region ?_
        refine Ops.quiet (Qt.move rfl) rfl ?_
        refine Ops.eff (Ef.call (fok fab_all rfl Tryd.func23 rfl) rfl (spec_stuff w0 body _ (by repeat (first | assumption | exact Reads.of_head | apply Reads.tail)) hbl)) rfl ?_
        rintro _ _ ⟨rfl, rfl⟩
        refine Ops.quiet (Qt.move rfl) rfl ?_
        refine Ops.quiet (Qt.extract rfl rfl) rfl ?_
        refine Ops.quiet (Qt.extract rfl rfl) rfl ?_
        refine Ops.quiet (Qt.assign rfl) rfl ?_
        refine Ops.quiet (Qt.assign rfl) rfl ?_
        refine Ops.nil ?_
        refine H.then_normal ?_
        refine H.seq ?_
        refine H.open_client fun tA tn tc lp rp oA on oc cA cn cc ⟨tl1, tl2, tl3⟩ ⟨ol1, ol2, ol3⟩ ⟨cl1, cl2, cl3⟩ => ?_
        refine H.region ?_
        refine Ops.quiet (Qt.move rfl) rfl ?_
        refine Ops.quiet (Qt.move rfl) rfl ?_
        refine Ops.quiet (Qt.nilCheck rfl) rfl ?_
        refine Ops.quiet (Qt.fieldAddr rfl (tk rfl) rfl) rfl ?_
        refine Ops.eff (Ef.store rfl rfl (tk rfl) rfl rfl (by repeat (first | exact ones_nil | refine ones_cons rfl ?_)) (by repeat (first | exact Upd.head | apply Upd.tail)) (by rfl)) rfl ?_
        rintro _ _ rfl
        refine Ops.nil ?_
        refine H.then_normal ?_
        refine H.seq ?_
        refine H.seq ?_
        refine H.conv (fun w hw => client_mk { Cl.new0 host frm targets with body := (stuffV body).1 } hw) ?_
        refine H.region ?_
        refine Ops.quiet (Qt.move rfl) rfl ?_
        refine Ops.quiet (Qt.neq rfl rfl) rfl ?_
        refine Ops.quiet (Qt.move rfl) rfl ?_
        refine Ops.guard rfl rfl rfl rfl (fun g34 => ?_) (fun g34 => ?_)
        · have g34' := g34
          try simp only [decide_eq_true_eq, decide_eq_false_iff_not, beq_iff_eq, beq_eq_false_iff_ne, bne_iff_ne, ne_eq, Bool.not_eq_true', Bool.not_eq_false', bne_eq_false_iff_eq, Bool.not_eq_eq_eq_not, Bool.not_true, Bool.not_false] at g34'
          refine Ops.quiet (Qt.move rfl) rfl ?_
          refine Ops.guard_yes rfl rfl rfl rfl g34 ?_
          refine Ops.quiet (Qt.len_sl (ats := #[]) rfl (tk rfl)) rfl ?_
          refine Ops.guard_yes rfl rfl rfl rfl g34 ?_
          refine Ops.quiet (Qt.eql rfl rfl) rfl ?_
          refine Ops.quiet (Qt.pick_f rfl rfl g34) rfl ?_
          refine Ops.quiet (Qt.move rfl) rfl ?_
          refine Ops.guard rfl rfl rfl rfl (fun g39 => ?_) (fun g39 => ?_)
          · have g39' := g39
            try simp only [decide_eq_true_eq, decide_eq_false_iff_not, beq_iff_eq, beq_eq_false_iff_ne, bne_iff_ne, ne_eq, Bool.not_eq_true', Bool.not_eq_false', bne_eq_false_iff_eq, Bool.not_eq_eq_eq_not, Bool.not_true, Bool.not_false] at g39'
            refine Ops.quiet (Qt.move rfl) rfl ?_
            refine Ops.guard_yes rfl rfl rfl rfl g39 ?_
            refine Ops.quiet (Qt.len_sl (ats := #[]) rfl (tk rfl)) rfl ?_
            refine Ops.guard_yes rfl rfl rfl rfl g39 ?_
            refine Ops.quiet (Qt.gtr rfl rfl) rfl ?_
            refine Ops.quiet (Qt.pick_f rfl rfl g39) rfl ?_
            refine Ops.nil ?_
            refine H.then_normal ?_
            refine H.cond rfl (fun h43 => ?_) (fun h43 => ?_)
            · try simp only [decide_eq_true_eq, decide_eq_false_iff_not, beq_iff_eq, beq_eq_false_iff_ne, bne_iff_ne, ne_eq, Bool.not_eq_true', Bool.not_eq_false', bne_eq_false_iff_eq, Bool.not_eq_eq_eq_not, Bool.not_true, Bool.not_false] at h43
              refine H.region ?_
              refine Ops.quiet (Qt.move rfl) rfl ?_
              refine Ops.eff (Ef.call (fok fab_all rfl Tryd.func24 rfl) rfl (spec_end w0 b22 _ 554 _)) rfl ?_
              rintro _ _ ⟨rfl, rfl⟩
              refine Ops.nil ?_
              refine H.then_normal ?_
              refine H.seq ?_
              refine H.region ?_
              refine Ops.quiet (Qt.move rfl) rfl ?_
              refine Ops.quiet (Qt.assign rfl) rfl ?_
              refine Ops.nil ?_
              refine H.then_normal ?_
              refine H.ret ?_
              refine (H.ends rfl (.cons (.tmp rfl) .nil) ?_)
              refine ⟨b22, rfl, ?_⟩
              unfold Cl.new
              rw [if_pos (.inr (.inr (by omega)))]
              rfl
            · try simp only [decide_eq_true_eq, decide_eq_false_iff_not, beq_iff_eq, beq_eq_false_iff_ne, bne_iff_ne, ne_eq, Bool.not_eq_true', Bool.not_eq_false', bne_eq_false_iff_eq, Bool.not_eq_eq_eq_not, Bool.not_true, Bool.not_false] at h43
              refine H.skip ?_
              refine H.then_normal ?_
              refine H.seq ?_
              refine H.region ?_
              refine Ops.quiet (Qt.move rfl) rfl ?_
              refine Ops.quiet (Qt.assign rfl) rfl ?_
              refine Ops.nil ?_
              refine H.then_normal ?_
              refine H.ret ?_
              refine (H.ends rfl (.cons (.tmp rfl) .nil) ?_)
              refine ⟨b22, rfl, ?_⟩
              unfold Cl.new
              rw [if_neg (by intro h; rcases h with h | h | h; exact h g34'; omega; omega)]
          · have g39' := g39
            try simp only [decide_eq_true_eq, decide_eq_false_iff_not, beq_iff_eq, beq_eq_false_iff_ne, bne_iff_ne, ne_eq, Bool.not_eq_true', Bool.not_eq_false', bne_eq_false_iff_eq, Bool.not_eq_eq_eq_not, Bool.not_true, Bool.not_false] at g39'
            refine Ops.guard_no rfl rfl rfl rfl g39 ?_
            refine Ops.guard_no rfl rfl rfl rfl g39 ?_
            refine Ops.quiet (Qt.pick_t rfl rfl g39) rfl ?_
            refine Ops.nil ?_
            refine H.then_normal ?_
            refine H.cond_true rfl (by rfl) ?_
            refine H.region ?_
            refine Ops.quiet (Qt.move rfl) rfl ?_
            refine Ops.eff (Ef.call (fok fab_all rfl Tryd.func24 rfl) rfl (spec_end w0 b22 _ 554 _)) rfl ?_
            rintro _ _ ⟨rfl, rfl⟩
            refine Ops.nil ?_
            refine H.then_normal ?_
            refine H.seq ?_
            refine H.region ?_
            refine Ops.quiet (Qt.move rfl) rfl ?_
            refine Ops.quiet (Qt.assign rfl) rfl ?_
            refine Ops.nil ?_
            refine H.then_normal ?_
            refine H.ret ?_
            refine (H.ends rfl (.cons (.tmp rfl) .nil) ?_)
            refine ⟨b22, rfl, ?_⟩
            unfold Cl.new
            rw [if_pos (.inr (.inl (by omega)))]
            rfl
        · have g34' := g34
          try simp only [decide_eq_true_eq, decide_eq_false_iff_not, beq_iff_eq, beq_eq_false_iff_ne, bne_iff_ne, ne_eq, Bool.not_eq_true', Bool.not_eq_false', bne_eq_false_iff_eq, Bool.not_eq_eq_eq_not, Bool.not_true, Bool.not_false] at g34'
          refine Ops.guard_no rfl rfl rfl rfl g34 ?_
          refine Ops.guard_no rfl rfl rfl rfl g34 ?_
          refine Ops.quiet (Qt.pick_t rfl rfl g34) rfl ?_
          refine Ops.quiet (Qt.move rfl) rfl ?_
          refine Ops.guard rfl rfl rfl rfl (fun g39 => ?_) (fun g39 => ?_)
          · have g39' := g39
            try simp only [decide_eq_true_eq, decide_eq_false_iff_not, beq_iff_eq, beq_eq_false_iff_ne, bne_iff_ne, ne_eq, Bool.not_eq_true', Bool.not_eq_false', bne_eq_false_iff_eq, Bool.not_eq_eq_eq_not, Bool.not_true, Bool.not_false] at g39'
            exact Bool.noConfusion g39
          · have g39' := g39
            try simp only [decide_eq_true_eq, decide_eq_false_iff_not, beq_iff_eq, beq_eq_false_iff_ne, bne_iff_ne, ne_eq, Bool.not_eq_true', Bool.not_eq_false', bne_eq_false_iff_eq, Bool.not_eq_eq_eq_not, Bool.not_true, Bool.not_false] at g39'
            refine Ops.guard_no rfl rfl rfl rfl g39 ?_
            refine Ops.guard_no rfl rfl rfl rfl g39 ?_
            refine Ops.quiet (Qt.pick_t rfl rfl g39) rfl ?_
            refine Ops.nil ?_
            refine H.then_normal ?_
            refine H.cond_true rfl (by rfl) ?_
            refine H.region ?_
            refine Ops.quiet (Qt.move rfl) rfl ?_
            refine Ops.eff (Ef.call (fok fab_all rfl Tryd.func24 rfl) rfl (spec_end w0 b22 _ 554 _)) rfl ?_
            rintro _ _ ⟨rfl, rfl⟩
            refine Ops.nil ?_
            refine H.then_normal ?_
            refine H.seq ?_
            refine H.region ?_
            refine Ops.quiet (Qt.move rfl) rfl ?_
            refine Ops.quiet (Qt.assign rfl) rfl ?_
            refine Ops.nil ?_
            refine H.then_normal ?_
            refine H.ret ?_
            refine (H.ends rfl (.cons (.tmp rfl) .nil) ?_)
            refine ⟨b22, rfl, ?_⟩
            unfold Cl.new
            rw [if_pos (.inl g34')]
            rfl
      · rintro _ _ ⟨A20, rfl, rfl⟩
        refine Hd.eff 5 (by intro w hw; first | exact hw | exact Own.sub (by repeat (first | exact List.Sublist.refl _ | exact List.nil_sublist _ | apply List.Sublist.cons_cons | apply List.Sublist.cons)) hw) rfl rfl (by kernel_rfl) rfl (Ef.call (fok fab_all rfl Tryd.func22 rfl) rfl (spec_rnew w0 _)) ?_
        rintro _ _ ⟨rp, rfl, rfl⟩
        refine Hd.tail (by intro w hw; first | exact hw | exact Own.sub (by repeat (first | exact List.Sublist.refl _ | exact List.nil_sublist _ | apply List.Sublist.cons_cons | apply List.Sublist.cons)) hw) (by kernel_rfl) rfl ?_
        refine Ops.quiet (Qt.build (tk rfl) (zk rfl) rfl (by rfl)) rfl ?_
        refine Ops.eff (Ef.box rfl rfl) rfl ?_
        rintro _ _ ⟨b22, rfl, rfl⟩
        refine Ops.quiet (Qt.assign rfl) rfl ?_
        refine Ops.nil ?_
        refine H.then_normal ?_
        refine H.seq ?_
        refine H.conv (fun w hw => client_mk (Cl.new0 host frm targets) (pack5 (hw.perm (.cons _ p112)))) ?_
        refine H.region ?_
        refine Ops.quiet (Qt.move rfl) rfl ?_
        refine Ops.eff (Ef.call (fok fab_all rfl Tryd.func23 rfl) rfl (spec_stuff w0 body _ (by repeat (first | assumption | exact Reads.of_head | apply Reads.tail)) hbl)) rfl ?_
        rintro _ _ ⟨rfl, rfl⟩
        refine Ops.quiet (Qt.move rfl) rfl ?_
        refine Ops.quiet (Qt.extract rfl rfl) rfl ?_
        refine Ops.quiet (Qt.extract rfl rfl) rfl ?_
        refine Ops.quiet (Qt.assign rfl) rfl ?_
        refine Ops.quiet (Qt.assign rfl) rfl ?_
        refine Ops.nil ?_
        refine H.then_normal ?_
        refine H.seq ?_
        refine H.open_client fun tA tn tc lp rp oA on oc cA cn cc ⟨tl1, tl2, tl3⟩ ⟨ol1, ol2, ol3⟩ ⟨cl1, cl2, cl3⟩ => ?_
        refine H.region ?_
        refine Ops.quiet (Qt.move rfl) rfl ?_
        refine Ops.quiet (Qt.move rfl) rfl ?_
        refine Ops.quiet (Qt.nilCheck rfl) rfl ?_
        refine Ops.quiet (Qt.fieldAddr rfl (tk rfl) rfl) rfl ?_
        refine Ops.eff (Ef.store rfl rfl (tk rfl) rfl rfl (by repeat (first | exact ones_nil | refine ones_cons rfl ?_)) (by repeat (first | exact Upd.head | apply Upd.tail)) (by rfl)) rfl ?_
        rintro _ _ rfl
        refine Ops.nil ?_
        refine H.then_normal ?_
        refine H.seq ?_
        refine H.seq ?_
        refine H.conv (fun w hw => client_mk { Cl.new0 host frm targets with body := (stuffV body).1 } hw) ?_
        refine H.region ?_
        refine Ops.quiet (Qt.move rfl) rfl ?_
        refine Ops.quiet (Qt.neq rfl rfl) rfl ?_
        refine Ops.quiet (Qt.move rfl) rfl ?_
        refine Ops.guard rfl rfl rfl rfl (fun g34 => ?_) (fun g34 => ?_)
        · have g34' := g34
          try simp only [decide_eq_true_eq, decide_eq_false_iff_not, beq_iff_eq, beq_eq_false_iff_ne, bne_iff_ne, ne_eq, Bool.not_eq_true', Bool.not_eq_false', bne_eq_false_iff_eq, Bool.not_eq_eq_eq_not, Bool.not_true, Bool.not_false] at g34'
          refine Ops.quiet (Qt.move rfl) rfl ?_
          refine Ops.guard_yes rfl rfl rfl rfl g34 ?_
          refine Ops.quiet (Qt.len_sl (ats := #[]) rfl (tk rfl)) rfl ?_
          refine Ops.guard_yes rfl rfl rfl rfl g34 ?_
          refine Ops.quiet (Qt.eql rfl rfl) rfl ?_
          refine Ops.quiet (Qt.pick_f rfl rfl g34) rfl ?_
          refine Ops.quiet (Qt.move rfl) rfl ?_
          refine Ops.guard rfl rfl rfl rfl (fun g39 => ?_) (fun g39 => ?_)
          · have g39' := g39
            try simp only [decide_eq_true_eq, decide_eq_false_iff_not, beq_iff_eq, beq_eq_false_iff_ne, bne_iff_ne, ne_eq, Bool.not_eq_true', Bool.not_eq_false', bne_eq_false_iff_eq, Bool.not_eq_eq_eq_not, Bool.not_true, Bool.not_false] at g39'
            refine Ops.quiet (Qt.move rfl) rfl ?_
            refine Ops.guard_yes rfl rfl rfl rfl g39 ?_
            refine Ops.quiet (Qt.len_sl (ats := #[]) rfl (tk rfl)) rfl ?_
            refine Ops.guard_yes rfl rfl rfl rfl g39 ?_
            refine Ops.quiet (Qt.gtr rfl rfl) rfl ?_
            refine Ops.quiet (Qt.pick_f rfl rfl g39) rfl ?_
            refine Ops.nil ?_
            refine H.then_normal ?_
            refine H.cond rfl (fun h43 => ?_) (fun h43 => ?_)
            · try simp only [decide_eq_true_eq, decide_eq_false_iff_not, beq_iff_eq, beq_eq_false_iff_ne, bne_iff_ne, ne_eq, Bool.not_eq_true', Bool.not_eq_false', bne_eq_false_iff_eq, Bool.not_eq_eq_eq_not, Bool.not_true, Bool.not_false] at h43
              refine H.region ?_
              refine Ops.quiet (Qt.move rfl) rfl ?_
              refine Ops.eff (Ef.call (fok fab_all rfl Tryd.func24 rfl) rfl (spec_end w0 b22 _ 554 _)) rfl ?_
              rintro _ _ ⟨rfl, rfl⟩
              refine Ops.nil ?_
              refine H.then_normal ?_
              refine H.seq ?_
              refine H.region ?_
              refine Ops.quiet (Qt.move rfl) rfl ?_
              refine Ops.quiet (Qt.assign rfl) rfl ?_
              refine Ops.nil ?_
              refine H.then_normal ?_
              refine H.ret ?_
              refine (H.ends rfl (.cons (.tmp rfl) .nil) ?_)
              refine ⟨b22, rfl, ?_⟩
              unfold Cl.new
              rw [if_pos (.inr (.inr (by omega)))]
              rfl
            · try simp only [decide_eq_true_eq, decide_eq_false_iff_not, beq_iff_eq, beq_eq_false_iff_ne, bne_iff_ne, ne_eq, Bool.not_eq_true', Bool.not_eq_false', bne_eq_false_iff_eq, Bool.not_eq_eq_eq_not, Bool.not_true, Bool.not_false] at h43
              refine H.skip ?_
              refine H.then_normal ?_
              refine H.seq ?_
              refine H.region ?_
              refine Ops.quiet (Qt.move rfl) rfl ?_
              refine Ops.quiet (Qt.assign rfl) rfl ?_
              refine Ops.nil ?_
              refine H.then_normal ?_
              refine H.ret ?_
              refine (H.ends rfl (.cons (.tmp rfl) .nil) ?_)
              refine ⟨b22, rfl, ?_⟩
              unfold Cl.new
              rw [if_neg (by intro h; rcases h with h | h | h; exact h g34'; omega; omega)]
          · have g39' := g39
            try simp only [decide_eq_true_eq, decide_eq_false_iff_not, beq_iff_eq, beq_eq_false_iff_ne, bne_iff_ne, ne_eq, Bool.not_eq_true', Bool.not_eq_false', bne_eq_false_iff_eq, Bool.not_eq_eq_eq_not, Bool.not_true, Bool.not_false] at g39'
            refine Ops.guard_no rfl rfl rfl rfl g39 ?_
            refine Ops.guard_no rfl rfl rfl rfl g39 ?_
            refine Ops.quiet (Qt.pick_t rfl rfl g39) rfl ?_
            refine Ops.nil ?_
            refine H.then_normal ?_
            refine H.cond_true rfl (by rfl) ?_
            refine H.region ?_
            refine Ops.quiet (Qt.move rfl) rfl ?_
            refine Ops.eff (Ef.call (fok fab_all rfl Tryd.func24 rfl) rfl (spec_end w0 b22 _ 554 _)) rfl ?_
            rintro _ _ ⟨rfl, rfl⟩
            refine Ops.nil ?_
            refine H.then_normal ?_
            refine H.seq ?_
            refine H.region ?_
            refine Ops.quiet (Qt.move rfl) rfl ?_
            refine Ops.quiet (Qt.assign rfl) rfl ?_
            refine Ops.nil ?_
            refine H.then_normal ?_
            refine H.ret ?_
            refine (H.ends rfl (.cons (.tmp rfl) .nil) ?_)
            refine ⟨b22, rfl, ?_⟩
            unfold Cl.new
            rw [if_pos (.inr (.inl (by omega)))]
            rfl
        · have g34' := g34
          try simp only [decide_eq_true_eq, decide_eq_false_iff_not, beq_iff_eq, beq_eq_false_iff_ne, bne_iff_ne, ne_eq, Bool.not_eq_true', Bool.not_eq_false', bne_eq_false_iff_eq, Bool.not_eq_eq_eq_not, Bool.not_true, Bool.not_false] at g34'
          refine Ops.guard_no rfl rfl rfl rfl g34 ?_
          refine Ops.guard_no rfl rfl rfl rfl g34 ?_
          refine Ops.quiet (Qt.pick_t rfl rfl g34) rfl ?_
          refine Ops.quiet (Qt.move rfl) rfl ?_
          refine Ops.guard rfl rfl rfl rfl (fun g39 => ?_) (fun g39 => ?_)
          · have g39' := g39
            try simp only [decide_eq_true_eq, decide_eq_false_iff_not, beq_iff_eq, beq_eq_false_iff_ne, bne_iff_ne, ne_eq, Bool.not_eq_true', Bool.not_eq_false', bne_eq_false_iff_eq, Bool.not_eq_eq_eq_not, Bool.not_true, Bool.not_false] at g39'
            exact Bool.noConfusion g39
          · have g39' := g39
            try simp only [decide_eq_true_eq, decide_eq_false_iff_not, beq_iff_eq, beq_eq_false_iff_ne, bne_iff_ne, ne_eq, Bool.not_eq_true', Bool.not_eq_false', bne_eq_false_iff_eq, Bool.not_eq_eq_eq_not, Bool.not_true, Bool.not_false] at g39'
            refine Ops.guard_no rfl rfl rfl rfl g39 ?_
            refine Ops.guard_no rfl rfl rfl rfl g39 ?_
            refine Ops.quiet (Qt.pick_t rfl rfl g39) rfl ?_
            refine Ops.nil ?_
            refine H.then_normal ?_
            refine H.cond_true rfl (by rfl) ?_
            refine H.region ?_
            refine Ops.quiet (Qt.move rfl) rfl ?_
            refine Ops.eff (Ef.call (fok fab_all rfl Tryd.func24 rfl) rfl (spec_end w0 b22 _ 554 _)) rfl ?_
            rintro _ _ ⟨rfl, rfl⟩
            refine Ops.nil ?_
            refine H.then_normal ?_
            refine H.seq ?_
            refine H.region ?_
            refine Ops.quiet (Qt.move rfl) rfl ?_
            refine Ops.quiet (Qt.assign rfl) rfl ?_
            refine Ops.nil ?_
            refine H.then_normal ?_
            refine H.ret ?_
            refine (H.ends rfl (.cons (.tmp rfl) .nil) ?_)
            refine ⟨b22, rfl, ?_⟩
            unfold Cl.new
            rw [if_pos (.inl g34')]
            rfl
    · rintro _ _ ⟨A20, rfl, rfl⟩
      refine Hd.eff 4 (by intro w hw; first | exact hw | exact Own.sub (by repeat (first | exact List.Sublist.refl _ | exact List.nil_sublist _ | apply List.Sublist.cons_cons | apply List.Sublist.cons)) hw) rfl rfl (by kernel_rfl) rfl (Ef.call (fok fab_all rfl Tryd.func21 rfl) rfl (spec_lnew w0 _)) ?_
      rintro _ _ ⟨lp, rfl, rfl⟩
      refine Hd.eff 5 (by intro w hw; first | exact hw | exact Own.sub (by repeat (first | exact List.Sublist.refl _ | exact List.nil_sublist _ | apply List.Sublist.cons_cons | apply List.Sublist.cons)) hw) rfl rfl (by kernel_rfl) rfl (Ef.call (fok fab_all rfl Tryd.func22 rfl) rfl (spec_rnew w0 _)) ?_
      rintro _ _ ⟨rp, rfl, rfl⟩
      refine Hd.tail (by intro w hw; first | exact hw | exact Own.sub (by repeat (first | exact List.Sublist.refl _ | exact List.nil_sublist _ | apply List.Sublist.cons_cons | apply List.Sublist.cons)) hw) (by kernel_rfl) rfl ?_
      refine Ops.quiet (Qt.build (tk rfl) (zk rfl) rfl (by rfl)) rfl ?_
      refine Ops.eff (Ef.box rfl rfl) rfl ?_
      rintro _ _ ⟨b22, rfl, rfl⟩
      refine Ops.quiet (Qt.assign rfl) rfl ?_
      refine Ops.nil ?_
      refine H.then_normal ?_
      refine H.seq ?_
      refine H.conv (fun w hw => client_mk (Cl.new0 host frm targets) (pack5 (hw.perm (.cons _ p12)))) ?_
      refine H.region ?_
      refine Ops.quiet (Qt.move rfl) rfl ?_
      refine Ops.eff (Ef.call (fok fab_all rfl Tryd.func23 rfl) rfl (spec_stuff w0 body _ (by repeat (first | assumption | exact Reads.of_head | apply Reads.tail)) hbl)) rfl ?_
      rintro _ _ ⟨rfl, rfl⟩
      refine Ops.quiet (Qt.move rfl) rfl ?_
      refine Ops.quiet (Qt.extract rfl rfl) rfl ?_
      refine Ops.quiet (Qt.extract rfl rfl) rfl ?_
      refine Ops.quiet (Qt.assign rfl) rfl ?_
      refine Ops.quiet (Qt.assign rfl) rfl ?_
      refine Ops.nil ?_
      refine H.then_normal ?_
      refine H.seq ?_
      refine H.open_client fun tA tn tc lp rp oA on oc cA cn cc ⟨tl1, tl2, tl3⟩ ⟨ol1, ol2, ol3⟩ ⟨cl1, cl2, cl3⟩ => ?_
      refine H.region ?_
      refine Ops.quiet (Qt.move rfl) rfl ?_
      refine Ops.quiet (Qt.move rfl) rfl ?_
      refine Ops.quiet (Qt.nilCheck rfl) rfl ?_
      refine Ops.quiet (Qt.fieldAddr rfl (tk rfl) rfl) rfl ?_
      refine Ops.eff (Ef.store rfl rfl (tk rfl) rfl rfl (by repeat (first | exact ones_nil | refine ones_cons rfl ?_)) (by repeat (first | exact Upd.head | apply Upd.tail)) (by rfl)) rfl ?_
      rintro _ _ rfl
      refine Ops.nil ?_
      refine H.then_normal ?_
      refine H.seq ?_
      refine H.seq ?_
      refine H.conv (fun w hw => client_mk { Cl.new0 host frm targets with body := (stuffV body).1 } hw) ?_
      refine H.region ?_
      refine Ops.quiet (Qt.move rfl) rfl ?_
      refine Ops.quiet (Qt.neq rfl rfl) rfl ?_
      refine Ops.quiet (Qt.move rfl) rfl ?_
      refine Ops.guard rfl rfl rfl rfl (fun g34 => ?_) (fun g34 => ?_)
      · have g34' := g34
        try simp only [decide_eq_true_eq, decide_eq_false_iff_not, beq_iff_eq, beq_eq_false_iff_ne, bne_iff_ne, ne_eq, Bool.not_eq_true', Bool.not_eq_false', bne_eq_false_iff_eq, Bool.not_eq_eq_eq_not, Bool.not_true, Bool.not_false] at g34'
        refine Ops.quiet (Qt.move rfl) rfl ?_
        refine Ops.guard_yes rfl rfl rfl rfl g34 ?_
        refine Ops.quiet (Qt.len_sl (ats := #[]) rfl (tk rfl)) rfl ?_
        refine Ops.guard_yes rfl rfl rfl rfl g34 ?_
        refine Ops.quiet (Qt.eql rfl rfl) rfl ?_
        refine Ops.quiet (Qt.pick_f rfl rfl g34) rfl ?_
        refine Ops.quiet (Qt.move rfl) rfl ?_
        refine Ops.guard rfl rfl rfl rfl (fun g39 => ?_) (fun g39 => ?_)
        · have g39' := g39
          try simp only [decide_eq_true_eq, decide_eq_false_iff_not, beq_iff_eq, beq_eq_false_iff_ne, bne_iff_ne, ne_eq, Bool.not_eq_true', Bool.not_eq_false', bne_eq_false_iff_eq, Bool.not_eq_eq_eq_not, Bool.not_true, Bool.not_false] at g39'
          refine Ops.quiet (Qt.move rfl) rfl ?_
          refine Ops.guard_yes rfl rfl rfl rfl g39 ?_
          refine Ops.quiet (Qt.len_sl (ats := #[]) rfl (tk rfl)) rfl ?_
          refine Ops.guard_yes rfl rfl rfl rfl g39 ?_
          refine Ops.quiet (Qt.gtr rfl rfl) rfl ?_
          refine Ops.quiet (Qt.pick_f rfl rfl g39) rfl ?_
          refine Ops.nil ?_
          refine H.then_normal ?_
          refine H.cond rfl (fun h43 => ?_) (fun h43 => ?_)
          · try simp only [decide_eq_true_eq, decide_eq_false_iff_not, beq_iff_eq, beq_eq_false_iff_ne, bne_iff_ne, ne_eq, Bool.not_eq_true', Bool.not_eq_false', bne_eq_false_iff_eq, Bool.not_eq_eq_eq_not, Bool.not_true, Bool.not_false] at h43
            refine H.region ?_
            refine Ops.quiet (Qt.move rfl) rfl ?_
            refine Ops.eff (Ef.call (fok fab_all rfl Tryd.func24 rfl) rfl (spec_end w0 b22 _ 554 _)) rfl ?_
            rintro _ _ ⟨rfl, rfl⟩
            refine Ops.nil ?_
            refine H.then_normal ?_
            refine H.seq ?_
            refine H.region ?_
            refine Ops.quiet (Qt.move rfl) rfl ?_
            refine Ops.quiet (Qt.assign rfl) rfl ?_
            refine Ops.nil ?_
            refine H.then_normal ?_
            refine H.ret ?_
            refine (H.ends rfl (.cons (.tmp rfl) .nil) ?_)
            refine ⟨b22, rfl, ?_⟩
            unfold Cl.new
            rw [if_pos (.inr (.inr (by omega)))]
            rfl
          · try simp only [decide_eq_true_eq, decide_eq_false_iff_not, beq_iff_eq, beq_eq_false_iff_ne, bne_iff_ne, ne_eq, Bool.not_eq_true', Bool.not_eq_false', bne_eq_false_iff_eq, Bool.not_eq_eq_eq_not, Bool.not_true, Bool.not_false] at h43
            refine H.skip ?_
            refine H.then_normal ?_
            refine H.seq ?_
            refine H.region ?_
            refine Ops.quiet (Qt.move rfl) rfl ?_
            refine Ops.quiet (Qt.assign rfl) rfl ?_
            refine Ops.nil ?_
            refine H.then_normal ?_
            refine H.ret ?_
            refine (H.ends rfl (.cons (.tmp rfl) .nil) ?_)
            refine ⟨b22, rfl, ?_⟩
            unfold Cl.new
            rw [if_neg (by intro h; rcases h with h | h | h; exact h g34'; omega; omega)]
        · have g39' := g39
          try simp only [decide_eq_true_eq, decide_eq_false_iff_not, beq_iff_eq, beq_eq_false_iff_ne, bne_iff_ne, ne_eq, Bool.not_eq_true', Bool.not_eq_false', bne_eq_false_iff_eq, Bool.not_eq_eq_eq_not, Bool.not_true, Bool.not_false] at g39'
          refine Ops.guard_no rfl rfl rfl rfl g39 ?_
          refine Ops.guard_no rfl rfl rfl rfl g39 ?_
          refine Ops.quiet (Qt.pick_t rfl rfl g39) rfl ?_
          refine Ops.nil ?_
          refine H.then_normal ?_
          refine H.cond_true rfl (by rfl) ?_
          refine H.region ?_
          refine Ops.quiet (Qt.move rfl) rfl ?_
          refine Ops.eff (Ef.call (fok fab_all rfl Tryd.func24 rfl) rfl (spec_end w0 b22 _ 554 _)) rfl ?_
          rintro _ _ ⟨rfl, rfl⟩
          refine Ops.nil ?_
          refine H.then_normal ?_
          refine H.seq ?_
          refine H.region ?_
          refine Ops.quiet (Qt.move rfl) rfl ?_
          refine Ops.quiet (Qt.assign rfl) rfl ?_
          refine Ops.nil ?_
          refine H.then_normal ?_
          refine H.ret ?_
          refine (H.ends rfl (.cons (.tmp rfl) .nil) ?_)
          refine ⟨b22, rfl, ?_⟩
          unfold Cl.new
          rw [if_pos (.inr (.inl (by omega)))]
          rfl
      · have g34' := g34
        try simp only [decide_eq_true_eq, decide_eq_false_iff_not, beq_iff_eq, beq_eq_false_iff_ne, bne_iff_ne, ne_eq, Bool.not_eq_true', Bool.not_eq_false', bne_eq_false_iff_eq, Bool.not_eq_eq_eq_not, Bool.not_true, Bool.not_false] at g34'
        refine Ops.guard_no rfl rfl rfl rfl g34 ?_
        refine Ops.guard_no rfl rfl rfl rfl g34 ?_
        refine Ops.quiet (Qt.pick_t rfl rfl g34) rfl ?_
        refine Ops.quiet (Qt.move rfl) rfl ?_
        refine Ops.guard rfl rfl rfl rfl (fun g39 => ?_) (fun g39 => ?_)
        · have g39' := g39
          try simp only [decide_eq_true_eq, decide_eq_false_iff_not, beq_iff_eq, beq_eq_false_iff_ne, bne_iff_ne, ne_eq, Bool.not_eq_true', Bool.not_eq_false', bne_eq_false_iff_eq, Bool.not_eq_eq_eq_not, Bool.not_true, Bool.not_false] at g39'
          exact Bool.noConfusion g39
        · have g39' := g39
          try simp only [decide_eq_true_eq, decide_eq_false_iff_not, beq_iff_eq, beq_eq_false_iff_ne, bne_iff_ne, ne_eq, Bool.not_eq_true', Bool.not_eq_false', bne_eq_false_iff_eq, Bool.not_eq_eq_eq_not, Bool.not_true, Bool.not_false] at g39'
          refine Ops.guard_no rfl rfl rfl rfl g39 ?_
          refine Ops.guard_no rfl rfl rfl rfl g39 ?_
          refine Ops.quiet (Qt.pick_t rfl rfl g39) rfl ?_
          refine Ops.nil ?_
          refine H.then_normal ?_
          refine H.cond_true rfl (by rfl) ?_
          refine H.region ?_
          refine Ops.quiet (Qt.move rfl) rfl ?_
          refine Ops.eff (Ef.call (fok fab_all rfl Tryd.func24 rfl) rfl (spec_end w0 b22 _ 554 _)) rfl ?_
          rintro _ _ ⟨rfl, rfl⟩
          refine Ops.nil ?_
          refine H.then_normal ?_
          refine H.seq ?_
          refine H.region ?_
          refine Ops.quiet (Qt.move rfl) rfl ?_
          refine Ops.quiet (Qt.assign rfl) rfl ?_
          refine Ops.nil ?_
          refine H.then_normal ?_
          refine H.ret ?_
          refine (H.ends rfl (.cons (.tmp rfl) .nil) ?_)
          refine ⟨b22, rfl, ?_⟩
          unfold Cl.new
          rw [if_pos (.inl g34')]
          rfl
  · rintro _ _ ⟨A20, rfl, rfl⟩
    refine Hd.eff 3 (by intro w hw; first | exact hw | exact Own.sub (by repeat (first | exact List.Sublist.refl _ | exact List.nil_sublist _ | apply List.Sublist.cons_cons | apply List.Sublist.cons)) hw) rfl rfl (by kernel_rfl) rfl (Ef.call (fok fab_all rfl Tryd.func20 rfl) rfl (spec_sclone (by repeat (first | assumption | exact Reads.of_head | apply Reads.tail)) (by omega))) ?_
    rintro _ _ ⟨A15, c15, rfl, rfl⟩
    refine Hd.eff 4 (by intro w hw; first | exact hw | exact Own.sub (by repeat (first | exact List.Sublist.refl _ | exact List.nil_sublist _ | apply List.Sublist.cons_cons | apply List.Sublist.cons)) hw) rfl rfl (by kernel_rfl) rfl (Ef.call (fok fab_all rfl Tryd.func21 rfl) rfl (spec_lnew w0 _)) ?_
    rintro _ _ ⟨lp, rfl, rfl⟩
    refine Hd.eff 5 (by intro w hw; first | exact hw | exact Own.sub (by repeat (first | exact List.Sublist.refl _ | exact List.nil_sublist _ | apply List.Sublist.cons_cons | apply List.Sublist.cons)) hw) rfl rfl (by kernel_rfl) rfl (Ef.call (fok fab_all rfl Tryd.func22 rfl) rfl (spec_rnew w0 _)) ?_
    rintro _ _ ⟨rp, rfl, rfl⟩
    refine Hd.tail (by intro w hw; first | exact hw | exact Own.sub (by repeat (first | exact List.Sublist.refl _ | exact List.nil_sublist _ | apply List.Sublist.cons_cons | apply List.Sublist.cons)) hw) (by kernel_rfl) rfl ?_
    refine Ops.quiet (Qt.build (tk rfl) (zk rfl) rfl (by rfl)) rfl ?_
    refine Ops.eff (Ef.box rfl rfl) rfl ?_
    rintro _ _ ⟨b22, rfl, rfl⟩
    refine Ops.quiet (Qt.assign rfl) rfl ?_
    refine Ops.nil ?_
    refine H.then_normal ?_
    refine H.seq ?_
    refine H.conv (fun w hw => client_mk (Cl.new0 host frm targets) (pack5 (hw.perm (.cons _ p2)))) ?_
    refine H.region ?_
    refine Ops.quiet (Qt.move rfl) rfl ?_
    refine Ops.eff (Ef.call (fok fab_all rfl Tryd.func23 rfl) rfl (spec_stuff w0 body _ (by repeat (first | assumption | exact Reads.of_head | apply Reads.tail)) hbl)) rfl ?_
    rintro _ _ ⟨rfl, rfl⟩
    refine Ops.quiet (Qt.move rfl) rfl ?_
    refine Ops.quiet (Qt.extract rfl rfl) rfl ?_
    refine Ops.quiet (Qt.extract rfl rfl) rfl ?_
    refine Ops.quiet (Qt.assign rfl) rfl ?_
    refine Ops.quiet (Qt.assign rfl) rfl ?_
    refine Ops.nil ?_
    refine H.then_normal ?_
    refine H.seq ?_
    refine H.open_client fun tA tn tc lp rp oA on oc cA cn cc ⟨tl1, tl2, tl3⟩ ⟨ol1, ol2, ol3⟩ ⟨cl1, cl2, cl3⟩ => ?_
    refine H.region ?_
    refine Ops.quiet (Qt.move rfl) rfl ?_
    refine Ops.quiet (Qt.move rfl) rfl ?_
    refine Ops.quiet (Qt.nilCheck rfl) rfl ?_
    refine Ops.quiet (Qt.fieldAddr rfl (tk rfl) rfl) rfl ?_
    refine Ops.eff (Ef.store rfl rfl (tk rfl) rfl rfl (by repeat (first | exact ones_nil | refine ones_cons rfl ?_)) (by repeat (first | exact Upd.head | apply Upd.tail)) (by rfl)) rfl ?_
    rintro _ _ rfl
    refine Ops.nil ?_
    refine H.then_normal ?_
    refine H.seq ?_
    refine H.seq ?_
    refine H.conv (fun w hw => client_mk { Cl.new0 host frm targets with body := (stuffV body).1 } hw) ?_
    refine H.region ?_
    refine Ops.quiet (Qt.move rfl) rfl ?_
    refine Ops.quiet (Qt.neq rfl rfl) rfl ?_
    refine Ops.quiet (Qt.move rfl) rfl ?_
    refine Ops.guard rfl rfl rfl rfl (fun g34 => ?_) (fun g34 => ?_)
    · have g34' := g34
      try simp only [decide_eq_true_eq, decide_eq_false_iff_not, beq_iff_eq, beq_eq_false_iff_ne, bne_iff_ne, ne_eq, Bool.not_eq_true', Bool.not_eq_false', bne_eq_false_iff_eq, Bool.not_eq_eq_eq_not, Bool.not_true, Bool.not_false] at g34'
      refine Ops.quiet (Qt.move rfl) rfl ?_
      refine Ops.guard_yes rfl rfl rfl rfl g34 ?_
      refine Ops.quiet (Qt.len_sl (ats := #[]) rfl (tk rfl)) rfl ?_
      refine Ops.guard_yes rfl rfl rfl rfl g34 ?_
      refine Ops.quiet (Qt.eql rfl rfl) rfl ?_
      refine Ops.quiet (Qt.pick_f rfl rfl g34) rfl ?_
      refine Ops.quiet (Qt.move rfl) rfl ?_
      refine Ops.guard rfl rfl rfl rfl (fun g39 => ?_) (fun g39 => ?_)
      · have g39' := g39
        try simp only [decide_eq_true_eq, decide_eq_false_iff_not, beq_iff_eq, beq_eq_false_iff_ne, bne_iff_ne, ne_eq, Bool.not_eq_true', Bool.not_eq_false', bne_eq_false_iff_eq, Bool.not_eq_eq_eq_not, Bool.not_true, Bool.not_false] at g39'
        refine Ops.quiet (Qt.move rfl) rfl ?_
        refine Ops.guard_yes rfl rfl rfl rfl g39 ?_
        refine Ops.quiet (Qt.len_sl (ats := #[]) rfl (tk rfl)) rfl ?_
        refine Ops.guard_yes rfl rfl rfl rfl g39 ?_
        refine Ops.quiet (Qt.gtr rfl rfl) rfl ?_
        refine Ops.quiet (Qt.pick_f rfl rfl g39) rfl ?_
        refine Ops.nil ?_
        refine H.then_normal ?_
        refine H.cond rfl (fun h43 => ?_) (fun h43 => ?_)
        · try simp only [decide_eq_true_eq, decide_eq_false_iff_not, beq_iff_eq, beq_eq_false_iff_ne, bne_iff_ne, ne_eq, Bool.not_eq_true', Bool.not_eq_false', bne_eq_false_iff_eq, Bool.not_eq_eq_eq_not, Bool.not_true, Bool.not_false] at h43
          refine H.region ?_
          refine Ops.quiet (Qt.move rfl) rfl ?_
          refine Ops.eff (Ef.call (fok fab_all rfl Tryd.func24 rfl) rfl (spec_end w0 b22 _ 554 _)) rfl ?_
          rintro _ _ ⟨rfl, rfl⟩
          refine Ops.nil ?_
          refine H.then_normal ?_
          refine H.seq ?_
          refine H.region ?_
          refine Ops.quiet (Qt.move rfl) rfl ?_
          refine Ops.quiet (Qt.assign rfl) rfl ?_
          refine Ops.nil ?_
          refine H.then_normal ?_
          refine H.ret ?_
          refine (H.ends rfl (.cons (.tmp rfl) .nil) ?_)
          refine ⟨b22, rfl, ?_⟩
          unfold Cl.new
          rw [if_pos (.inr (.inr (by omega)))]
          rfl
        · try simp only [decide_eq_true_eq, decide_eq_false_iff_not, beq_iff_eq, beq_eq_false_iff_ne, bne_iff_ne, ne_eq, Bool.not_eq_true', Bool.not_eq_false', bne_eq_false_iff_eq, Bool.not_eq_eq_eq_not, Bool.not_true, Bool.not_false] at h43
          refine H.skip ?_
          refine H.then_normal ?_
          refine H.seq ?_
          refine H.region ?_
          refine Ops.quiet (Qt.move rfl) rfl ?_
          refine Ops.quiet (Qt.assign rfl) rfl ?_
          refine Ops.nil ?_
          refine H.then_normal ?_
          refine H.ret ?_
          refine (H.ends rfl (.cons (.tmp rfl) .nil) ?_)
          refine ⟨b22, rfl, ?_⟩
          unfold Cl.new
          rw [if_neg (by intro h; rcases h with h | h | h; exact h g34'; omega; omega)]
      · have g39' := g39
        try simp only [decide_eq_true_eq, decide_eq_false_iff_not, beq_iff_eq, beq_eq_false_iff_ne, bne_iff_ne, ne_eq, Bool.not_eq_true', Bool.not_eq_false', bne_eq_false_iff_eq, Bool.not_eq_eq_eq_not, Bool.not_true, Bool.not_false] at g39'
        refine Ops.guard_no rfl rfl rfl rfl g39 ?_
        refine Ops.guard_no rfl rfl rfl rfl g39 ?_
        refine Ops.quiet (Qt.pick_t rfl rfl g39) rfl ?_
        refine Ops.nil ?_
        refine H.then_normal ?_
        refine H.cond_true rfl (by rfl) ?_
        refine H.region ?_
        refine Ops.quiet (Qt.move rfl) rfl ?_
        refine Ops.eff (Ef.call (fok fab_all rfl Tryd.func24 rfl) rfl (spec_end w0 b22 _ 554 _)) rfl ?_
        rintro _ _ ⟨rfl, rfl⟩
        refine Ops.nil ?_
        refine H.then_normal ?_
        refine H.seq ?_
        refine H.region ?_
        refine Ops.quiet (Qt.move rfl) rfl ?_
        refine Ops.quiet (Qt.assign rfl) rfl ?_
        refine Ops.nil ?_
        refine H.then_normal ?_
        refine H.ret ?_
        refine (H.ends rfl (.cons (.tmp rfl) .nil) ?_)
        refine ⟨b22, rfl, ?_⟩
        unfold Cl.new
        rw [if_pos (.inr (.inl (by omega)))]
        rfl
    · have g34' := g34
      try simp only [decide_eq_true_eq, decide_eq_false_iff_not, beq_iff_eq, beq_eq_false_iff_ne, bne_iff_ne, ne_eq, Bool.not_eq_true', Bool.not_eq_false', bne_eq_false_iff_eq, Bool.not_eq_eq_eq_not, Bool.not_true, Bool.not_false] at g34'
      refine Ops.guard_no rfl rfl rfl rfl g34 ?_
      refine Ops.guard_no rfl rfl rfl rfl g34 ?_
      refine Ops.quiet (Qt.pick_t rfl rfl g34) rfl ?_
      refine Ops.quiet (Qt.move rfl) rfl ?_
      refine Ops.guard rfl rfl rfl rfl (fun g39 => ?_) (fun g39 => ?_)
      · have g39' := g39
        try simp only [decide_eq_true_eq, decide_eq_false_iff_not, beq_iff_eq, beq_eq_false_iff_ne, bne_iff_ne, ne_eq, Bool.not_eq_true', Bool.not_eq_false', bne_eq_false_iff_eq, Bool.not_eq_eq_eq_not, Bool.not_true, Bool.not_false] at g39'
        exact Bool.noConfusion g39
      · have g39' := g39
        try simp only [decide_eq_true_eq, decide_eq_false_iff_not, beq_iff_eq, beq_eq_false_iff_ne, bne_iff_ne, ne_eq, Bool.not_eq_true', Bool.not_eq_false', bne_eq_false_iff_eq, Bool.not_eq_eq_eq_not, Bool.not_true, Bool.not_false] at g39'
        refine Ops.guard_no rfl rfl rfl rfl g39 ?_
        refine Ops.guard_no rfl rfl rfl rfl g39 ?_
        refine Ops.quiet (Qt.pick_t rfl rfl g39) rfl ?_
        refine Ops.nil ?_
        refine H.then_normal ?_
        refine H.cond_true rfl (by rfl) ?_
        refine H.region ?_
        refine Ops.quiet (Qt.move rfl) rfl ?_
        refine Ops.eff (Ef.call (fok fab_all rfl Tryd.func24 rfl) rfl (spec_end w0 b22 _ 554 _)) rfl ?_
        rintro _ _ ⟨rfl, rfl⟩
        refine Ops.nil ?_
        refine H.then_normal ?_
        refine H.seq ?_
        refine H.region ?_
        refine Ops.quiet (Qt.move rfl) rfl ?_
        refine Ops.quiet (Qt.assign rfl) rfl ?_
        refine Ops.nil ?_
        refine H.then_normal ?_
        refine H.ret ?_
        refine (H.ends rfl (.cons (.tmp rfl) .nil) ?_)
        refine ⟨b22, rfl, ?_⟩
        unfold Cl.new
        rw [if_pos (.inl g34')]
        rfl
end Go.Proofs.YtimldpbddkhedaaDoor
