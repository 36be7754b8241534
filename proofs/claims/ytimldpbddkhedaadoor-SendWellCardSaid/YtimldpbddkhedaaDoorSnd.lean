/- The session with the next hop: its memory as a chunk, and what its small methods do. -/
import Derived.Test.YtimldpbddkhedaaDoorRdr
namespace Go.Proofs.YtimldpbddkhedaaDoor
open Go Go.RowKit
set_option maxRecDepth 100000
set_option linter.unusedVariables false
set_option linter.unusedSimpArgs false
attribute [local irreducible] Go.wpList Go.Code.wp Go.Exit.then Go.Exit.inBlock Go.Exit.noGoto Ends blk osl oblk LoopI Own Spec
structure Cl where
  host : Bs
  frm : Bs
  targets : List Bs
  body : Bs
  wait : Bs
  rcode : Int
  rlines : List Bs
  out : List Bs
  state : Int
  at_ : Int
  codes : List Int
  over : Bool
def client (b : Nat) (c : Cl) : SProp :=
  exS fun tA => exS fun tn => exS fun tc => exS fun lp => exS fun rp => exS fun oA => exS fun on => exS fun oc => exS fun cA => exS fun cn => exS fun cc =>
  bun [blk b [str c.host, str c.frm, .slice tA tn tc, str c.body, .pointer (some ⟨lp, 0, none⟩), .pointer (some ⟨rp, 0, none⟩), .slice oA on oc, num c.state, num c.at_, .slice cA cn cc, bol c.over] 51,
    osl 9 tA tn tc (c.targets.map str), osl 9 oA on oc (c.out.map str), osl 3 cA cn cc (c.codes.map num), lineR lp c.wait, replyR rp c.rcode c.rlines]
theorem client_mk (c : Cl) {b tn tc lp rp on oc cn cc : Nat} {tA oA cA : Option Addr} {fr : List SProp} {w0 w : World}
    (h : Own w0 w (blk b [str c.host, str c.frm, .slice tA tn tc, str c.body, .pointer (some ⟨lp, 0, none⟩), .pointer (some ⟨rp, 0, none⟩), .slice oA on oc, num c.state, num c.at_, .slice cA cn cc, bol c.over] 51 ::
      osl 9 tA tn tc (c.targets.map str) :: osl 9 oA on oc (c.out.map str) :: osl 3 cA cn cc (c.codes.map num) :: lineR lp c.wait :: replyR rp c.rcode c.rlines :: fr)) : Own w0 w (client b c :: fr) :=
  Own.ex_iff.2 ⟨tA, Own.ex_iff.2 ⟨tn, Own.ex_iff.2 ⟨tc, Own.ex_iff.2 ⟨lp, Own.ex_iff.2 ⟨rp, Own.ex_iff.2 ⟨oA, Own.ex_iff.2 ⟨on, Own.ex_iff.2 ⟨oc, Own.ex_iff.2 ⟨cA, Own.ex_iff.2 ⟨cn, Own.ex_iff.2 ⟨cc, Own.bun_iff.2 h⟩⟩⟩⟩⟩⟩⟩⟩⟩⟩⟩
theorem H.open_client {N : Nat} {w0 : World} {e : Env} {J : Act → World → Prop} {b : Nat} {c : Cl} {fr : List SProp}
    (h : ∀ (tA : Option Addr) (tn tc lp rp : Nat) (oA : Option Addr) (on oc : Nat) (cA : Option Addr) (cn cc : Nat), (c.targets.length = tn ∧ tn ≤ tc ∧ tc ≤ 9223372036854775807) → (c.out.length = on ∧ on ≤ oc ∧ oc ≤ 9223372036854775807) → (c.codes.length = cn ∧ cn ≤ cc ∧ cc ≤ 9223372036854775807) →
      H N w0 e (blk b [str c.host, str c.frm, .slice tA tn tc, str c.body, .pointer (some ⟨lp, 0, none⟩), .pointer (some ⟨rp, 0, none⟩), .slice oA on oc, num c.state, num c.at_, .slice cA cn cc, bol c.over] 51 ::
        osl 9 tA tn tc (c.targets.map str) :: osl 9 oA on oc (c.out.map str) :: osl 3 cA cn cc (c.codes.map num) :: lineR lp c.wait :: replyR rp c.rcode c.rlines :: fr) J) : H N w0 e (client b c :: fr) J := by
  refine H.ex fun tA => H.ex fun tn => H.ex fun tc => H.ex fun lp => H.ex fun rp => H.ex fun oA => H.ex fun on => H.ex fun oc => H.ex fun cA => H.ex fun cn => H.ex fun cc => H.bun ?_
  simp only [List.cons_append, List.nil_append]
  refine H.fact (fun w hw => (Own.len (osl_reads (.tail _ (.head _))) hw)) fun tl => ?_
  refine H.fact (fun w hw => (Own.len (osl_reads (.tail _ (.tail _ (.head _)))) hw)) fun ol => ?_
  refine H.fact (fun w hw => (Own.len (osl_reads (.tail _ (.tail _ (.tail _ (.head _))))) hw)) fun cl => ?_
  simp only [List.length_map] at tl ol cl
  exact h tA tn tc lp rp oA on oc cA cn cc tl ol cl
attribute [irreducible] client

theorem spec_say (w0 : World) (b : Nat) (c : Cl) (s : Bs) (fr : List SProp) (ho : c.out.length ≤ 1000000) (hs : s.length ≤ 4611686018427387904) :
    Spec Tryd.prog w0 59 [ptr b, str s] (client b c :: fr) (fun v cs' => v = unit ∧ cs' = client b { c with out := c.out ++ [s ++ [13, 10]] } :: fr) := by
  refine Spec.of_body Tryd.func59 rfl Tryd.ntmps59 rfl ?_
  refine H.open_client fun tA tn tc lp rp oA on oc cA cn cc ⟨tl1, tl2, tl3⟩ ⟨ol1, ol2, ol3⟩ ⟨cl1, cl2, cl3⟩ => ?_
  refine H.region ?_
  refine Ops.quiet (Qt.move rfl) rfl ?_
  refine Ops.quiet (Qt.move rfl) rfl ?_
  refine Ops.quiet (Qt.nilCheck rfl) rfl ?_
  refine Ops.quiet (Qt.fieldAddr rfl (tk rfl) rfl) rfl ?_
  refine Ops.quiet (Qt.load rfl (tk rfl) rfl (by repeat (first | exact List.Mem.head _ | apply List.Mem.tail)) (by rfl)) rfl ?_
  refine Ops.quiet (Qt.move rfl) rfl ?_
  refine Ops.quiet (Qt.cat rfl rfl (by (try simp only [List.length_append, List.length_cons, List.length_nil]); omega)) rfl ?_
  refine Ops.eff (Ef.buildSlice (tk rfl) (tk rfl) rfl (zk rfl) rfl rfl rfl (by repeat (first | exact ones_nil | refine ones_cons rfl ?_))) rfl ?_
  rintro _ _ ⟨A11, c11, rfl, rfl⟩
  refine Ops.eff (Ef.append1 rfl rfl (tk rfl) (tk rfl) rfl (zk rfl) (by repeat (first | assumption | exact Reads.of_head | apply Reads.tail)) (by intro _ _; repeat (first | exact Upd.head | apply Upd.tail)) (fun _ => rfl) (by dsimp only; omega) (by simp only [maxLen]; omega)) rfl ?_
  rintro _ _ ⟨A12, c12, rfl, rfl⟩
  refine Ops.quiet (Qt.nilCheck rfl) rfl ?_
  refine Ops.quiet (Qt.fieldAddr rfl (tk rfl) rfl) rfl ?_
  refine Ops.eff (Ef.store rfl rfl (tk rfl) rfl rfl (by repeat (first | exact ones_nil | refine ones_cons rfl ?_)) (by repeat (first | exact Upd.head | apply Upd.tail)) (by rfl)) rfl ?_
  rintro _ _ rfl
  refine Ops.nil ?_
  refine H.conv (fun w hw => client_mk { c with out := c.out ++ [s ++ [13, 10]] } hw.tail) (H.ends_n rfl (ResAll.nil) ?_)
  exact ⟨rfl, rfl⟩

def Cl.wanted (c : Cl) : Int := if c.state = 0 then 220 else if c.state = 4 then 354 else 250
theorem spec_wanted (w0 : World) (b : Nat) (c : Cl) (fr : List SProp) :
    Spec Tryd.prog w0 47 [ptr b] (client b c :: fr) (fun v cs' => v = num c.wanted ∧ cs' = client b c :: fr) := by
  refine Spec.of_body Tryd.func47 rfl Tryd.ntmps47 rfl ?_
  refine H.open_client fun tA tn tc lp rp oA on oc cA cn cc ⟨tl1, tl2, tl3⟩ ⟨ol1, ol2, ol3⟩ ⟨cl1, cl2, cl3⟩ => ?_
  refine H.seq ?_
  refine H.region ?_
  refine Ops.quiet (Qt.assign rfl) rfl ?_
  refine Ops.nil ?_
  refine H.then_normal ?_
  refine H.seq ?_
  refine H.seq ?_
  refine H.region ?_
  refine Ops.quiet (Qt.move rfl) rfl ?_
  refine Ops.quiet (Qt.nilCheck rfl) rfl ?_
  refine Ops.quiet (Qt.fieldAddr rfl (tk rfl) rfl) rfl ?_
  refine Ops.quiet (Qt.load rfl (tk rfl) rfl (by repeat (first | exact List.Mem.head _ | apply List.Mem.tail)) (by rfl)) rfl ?_
  refine Ops.nil ?_
  refine H.then_normal ?_
  refine H.block ?_
  refine H.seq ?_
  refine H.region ?_
  refine Ops.quiet (Qt.eql rfl rfl) rfl ?_
  refine Ops.quiet (Qt.assign rfl) rfl ?_
  refine Ops.nil ?_
  refine H.then_normal ?_
  refine H.cond rfl (fun h7 => ?_) (fun h7 => ?_)
  · try simp only [decide_eq_true_eq, decide_eq_false_iff_not, beq_iff_eq, beq_eq_false_iff_ne, bne_iff_ne, ne_eq, Bool.not_eq_true', Bool.not_eq_false', bne_eq_false_iff_eq, Bool.not_eq_eq_eq_not, Bool.not_true, Bool.not_false] at h7
    refine H.seq ?_
    refine H.region ?_
    refine Ops.quiet (Qt.assign rfl) rfl ?_
    refine Ops.nil ?_
    refine H.then_normal ?_
    refine H.ret ?_
    refine H.blk_ret ?_
    refine H.then_ret ?_
    refine H.conv (fun w hw => client_mk c hw) (H.ends rfl (.cons (.tmp rfl) .nil) ?_)
    exact ⟨by simp [Cl.wanted, *, retV], rfl⟩
  · try simp only [decide_eq_true_eq, decide_eq_false_iff_not, beq_iff_eq, beq_eq_false_iff_ne, bne_iff_ne, ne_eq, Bool.not_eq_true', Bool.not_eq_false', bne_eq_false_iff_eq, Bool.not_eq_eq_eq_not, Bool.not_true, Bool.not_false] at h7
    refine H.seq ?_
    refine H.region ?_
    refine Ops.quiet (Qt.eql rfl rfl) rfl ?_
    refine Ops.quiet (Qt.assign rfl) rfl ?_
    refine Ops.nil ?_
    refine H.then_normal ?_
    refine H.cond rfl (fun h9 => ?_) (fun h9 => ?_)
    · try simp only [decide_eq_true_eq, decide_eq_false_iff_not, beq_iff_eq, beq_eq_false_iff_ne, bne_iff_ne, ne_eq, Bool.not_eq_true', Bool.not_eq_false', bne_eq_false_iff_eq, Bool.not_eq_eq_eq_not, Bool.not_true, Bool.not_false] at h9
      refine H.seq ?_
      refine H.region ?_
      refine Ops.quiet (Qt.assign rfl) rfl ?_
      refine Ops.nil ?_
      refine H.then_normal ?_
      refine H.ret ?_
      refine H.blk_ret ?_
      refine H.then_ret ?_
      refine H.conv (fun w hw => client_mk c hw) (H.ends rfl (.cons (.tmp rfl) .nil) ?_)
      exact ⟨by simp [Cl.wanted, *, retV], rfl⟩
    · try simp only [decide_eq_true_eq, decide_eq_false_iff_not, beq_iff_eq, beq_eq_false_iff_ne, bne_iff_ne, ne_eq, Bool.not_eq_true', Bool.not_eq_false', bne_eq_false_iff_eq, Bool.not_eq_eq_eq_not, Bool.not_true, Bool.not_false] at h9
      refine H.skip ?_
      refine H.blk_normal ?_
      refine H.then_normal ?_
      refine H.seq ?_
      refine H.region ?_
      refine Ops.quiet (Qt.assign rfl) rfl ?_
      refine Ops.nil ?_
      refine H.then_normal ?_
      refine H.ret ?_
      refine H.conv (fun w hw => client_mk c hw) (H.ends rfl (.cons (.tmp rfl) .nil) ?_)
      exact ⟨by simp [Cl.wanted, *, retV], rfl⟩

def endC (code : Int) (l : List Int) : List Int := l.map fun n => if n = 0 then code else n
theorem endC_len (code : Int) (l : List Int) (k : Nat) : (endC code (l.take k) ++ l.drop k).length = l.length := by simp [endC]; omega
theorem endC_at (code : Int) (l : List Int) (k : Nat) (h : k < l.length) : (endC code (l.take k) ++ l.drop k).getD k 0 = l.getD k 0 := by
  have : (endC code (l.take k)).length = k := by simp [endC]; omega
  simp only [List.getD_eq_getElem?_getD]
  rw [List.getElem?_append_right (by omega), this]
  simp
theorem endC_set (code : Int) (l : List Int) (k : Nat) (h : k < l.length) (h0 : l.getD k 0 = 0) : (endC code (l.take k) ++ l.drop k).set k code = endC code (l.take (k + 1)) ++ l.drop (k + 1) := by
  have h1 : (endC code (l.take k)).length = k := by simp [endC]; omega
  have h2 : l.drop k = l[k] :: l.drop (k + 1) := List.drop_eq_getElem_cons h
  have h3 : l[k] = 0 := by simpa [List.getD_eq_getElem?_getD, h] using h0
  rw [List.set_append_right _ _ (by omega), h1, Nat.sub_self, h2, List.set_cons_zero, List.take_succ_eq_append_getElem h]
  simp [endC, h3]
theorem endC_keep (code : Int) (l : List Int) (k : Nat) (h : k < l.length) (h0 : l.getD k 0 ≠ 0) : endC code (l.take k) ++ l.drop k = endC code (l.take (k + 1)) ++ l.drop (k + 1) := by
  have h2 : l.drop k = l[k] :: l.drop (k + 1) := List.drop_eq_getElem_cons h
  have h3 : l[k] ≠ 0 := by simpa [List.getD_eq_getElem?_getD, h] using h0
  rw [h2, List.take_succ_eq_append_getElem h]
  simp only [endC, List.map_append, List.map_cons, List.map_nil, if_neg h3, List.append_assoc, List.singleton_append]
theorem spec_end (w0 : World) (b : Nat) (c : Cl) (code : Int) (fr : List SProp) :
    Spec Tryd.prog w0 24 [ptr b, num code] (client b c :: fr) (fun v cs' => v = unit ∧ cs' = client b { c with codes := endC code c.codes, over := true } :: fr) := by
  refine Spec.of_body Tryd.func24 rfl Tryd.ntmps24 rfl ?_
  refine H.open_client fun tA tn tc lp rp oA on oc cA cn cc ⟨tl1, tl2, tl3⟩ ⟨ol1, ol2, ol3⟩ ⟨cl1, cl2, cl3⟩ => ?_
  refine H.seq ?_
  refine H.seq ?_
  refine H.region ?_
  refine Ops.quiet (Qt.move rfl) rfl ?_
  refine Ops.quiet (Qt.nilCheck rfl) rfl ?_
  refine Ops.quiet (Qt.fieldAddr rfl (tk rfl) rfl) rfl ?_
  refine Ops.quiet (Qt.load rfl (tk rfl) rfl (by repeat (first | exact List.Mem.head _ | apply List.Mem.tail)) (by rfl)) rfl ?_
  refine Ops.quiet (Qt.len_sl (ats := #[]) rfl (tk rfl)) rfl ?_
  refine Ops.quiet (Qt.move rfl) rfl ?_
  refine Ops.nil ?_
  refine H.then_normal ?_
  refine H.block ?_
  refine H.loop (X := Nat) (fun k => [(0, ptr b), (1, num code), (9, .slice cA cn cc), (10, num cn), (11, num k)])
    (fun k => blk b [str c.host, str c.frm, .slice tA tn tc, str c.body, .pointer (some ⟨lp, 0, none⟩), .pointer (some ⟨rp, 0, none⟩), .slice oA on oc, num c.state, num c.at_, .slice cA cn cc, bol c.over] 51 ::
    osl 9 tA tn tc (c.targets.map str) :: osl 9 oA on oc (c.out.map str) :: osl 3 cA cn cc ((endC code (c.codes.take k) ++ c.codes.drop k).map num) :: lineR lp c.wait :: replyR rp c.rcode c.rlines :: fr)
    (fun k => k ≤ cn) (fun k => cn - k) 0 (Nat.zero_le _) (by repeat (first | exact trivial | refine ⟨rfl, ?_⟩)) (fun w hw => hw) ?_
  intro k hk
  have hL := endC_len code c.codes k
  refine H.seq ?_
  refine H.region ?_
  refine Ops.quiet (Qt.lss rfl rfl) rfl ?_
  refine Ops.nil ?_
  refine H.then_normal ?_
  refine H.seq ?_
  refine H.cond rfl (fun h12 => ?_) (fun h12 => ?_)
  · try simp only [decide_eq_true_eq, decide_eq_false_iff_not, beq_iff_eq, beq_eq_false_iff_ne, bne_iff_ne, ne_eq, Bool.not_eq_true', Bool.not_eq_false', bne_eq_false_iff_eq, Bool.not_eq_eq_eq_not, Bool.not_true, Bool.not_false] at h12
    have hk' : k < c.codes.length := by omega
    have ha := endC_at code c.codes k hk'
    refine H.skip ?_
    refine H.then_normal ?_
    refine H.seq ?_
    refine H.block ?_
    refine H.seq ?_
    refine H.region ?_
    refine Ops.quiet (Qt.move rfl) rfl ?_
    refine Ops.quiet (Qt.indexAddr rfl rfl (tk rfl) (tk rfl) rfl (by repeat (first | assumption | exact Reads.of_head | apply Reads.tail)) (by omega) (by omega)) rfl ?_
    refine Ops.quiet (Qt.load_map (0 : Int) rfl (tk rfl) rfl (by repeat (first | assumption | exact Reads.of_head | apply Reads.tail)) (by omega)) rfl ?_
    refine Ops.quiet (Qt.assign rfl) rfl ?_
    refine Ops.quiet (Qt.assign rfl) rfl ?_
    refine Ops.nil ?_
    refine H.then_normal ?_
    refine H.seq ?_
    refine H.region ?_
    refine Ops.quiet (Qt.move rfl) rfl ?_
    refine Ops.quiet (Qt.eql rfl rfl) rfl ?_
    refine Ops.nil ?_
    refine H.then_normal ?_
    refine H.cond rfl (fun h17 => ?_) (fun h17 => ?_)
    · try simp only [decide_eq_true_eq, decide_eq_false_iff_not, beq_iff_eq, beq_eq_false_iff_ne, bne_iff_ne, ne_eq, Bool.not_eq_true', Bool.not_eq_false', bne_eq_false_iff_eq, Bool.not_eq_eq_eq_not, Bool.not_true, Bool.not_false] at h17
      refine H.region ?_
      refine Ops.quiet (Qt.move rfl) rfl ?_
      refine Ops.quiet (Qt.nilCheck rfl) rfl ?_
      refine Ops.quiet (Qt.fieldAddr rfl (tk rfl) rfl) rfl ?_
      refine Ops.quiet (Qt.load rfl (tk rfl) rfl (by repeat (first | exact List.Mem.head _ | apply List.Mem.tail)) (by rfl)) rfl ?_
      refine Ops.quiet (Qt.move rfl) rfl ?_
      refine Ops.quiet (Qt.move rfl) rfl ?_
      refine Ops.quiet (Qt.indexAddr rfl rfl (tk rfl) (tk rfl) rfl (by repeat (first | assumption | exact Reads.of_head | apply Reads.tail)) (by omega) (by omega)) rfl ?_
      refine Ops.eff (Ef.store_map rfl rfl (tk rfl) rfl (fun _ => rfl) (by repeat (first | exact Upd.head | apply Upd.tail)) (by omega)) rfl ?_
      rintro _ _ rfl
      refine Ops.nil ?_
      refine H.blk_normal ?_
      refine H.then_normal ?_
      refine H.region ?_
      refine Ops.quiet (Qt.add64 rfl rfl (by omega) (by omega)) rfl ?_
      refine Ops.quiet (Qt.move rfl) rfl ?_
      refine Ops.nil ?_
      refine H.then_normal ?_
      refine H.round (k + 1) (by omega) (by omega) (by repeat (first | exact trivial | refine ⟨rfl, ?_⟩)) (fun w hw => ?_)
      have e1 := endC_set code c.codes k hk' (by rw [← ha]; exact h17)
      rw [← e1]; exact hw
    · try simp only [decide_eq_true_eq, decide_eq_false_iff_not, beq_iff_eq, beq_eq_false_iff_ne, bne_iff_ne, ne_eq, Bool.not_eq_true', Bool.not_eq_false', bne_eq_false_iff_eq, Bool.not_eq_eq_eq_not, Bool.not_true, Bool.not_false] at h17
      refine H.skip ?_
      refine H.blk_normal ?_
      refine H.then_normal ?_
      refine H.region ?_
      refine Ops.quiet (Qt.add64 rfl rfl (by omega) (by omega)) rfl ?_
      refine Ops.quiet (Qt.move rfl) rfl ?_
      refine Ops.nil ?_
      refine H.then_normal ?_
      refine H.round (k + 1) (by omega) (by omega) (by repeat (first | exact trivial | refine ⟨rfl, ?_⟩)) (fun w hw => ?_)
      have e1 := endC_keep code c.codes k hk' (by rw [← ha]; exact h17)
      rw [← e1]; exact hw
  · try simp only [decide_eq_true_eq, decide_eq_false_iff_not, beq_iff_eq, beq_eq_false_iff_ne, bne_iff_ne, ne_eq, Bool.not_eq_true', Bool.not_eq_false', bne_eq_false_iff_eq, Bool.not_eq_eq_eq_not, Bool.not_true, Bool.not_false] at h12
    refine H.exit ?_
    refine H.then_exit ?_
    refine H.then_exit ?_
    refine H.blk_hit ?_
    refine H.then_normal ?_
    refine H.region ?_
    refine Ops.quiet (Qt.move rfl) rfl ?_
    refine Ops.quiet (Qt.nilCheck rfl) rfl ?_
    refine Ops.quiet (Qt.fieldAddr rfl (tk rfl) rfl) rfl ?_
    refine Ops.eff (Ef.store rfl rfl (tk rfl) rfl rfl (by repeat (first | exact ones_nil | refine ones_cons rfl ?_)) (by repeat (first | exact Upd.head | apply Upd.tail)) (by rfl)) rfl ?_
    rintro _ _ rfl
    refine Ops.nil ?_
    have e2 : endC code (c.codes.take k) ++ c.codes.drop k = endC code c.codes := by rw [List.take_of_length_le (by omega), List.drop_of_length_le (by omega), List.append_nil]
    refine H.conv (fun w hw => client_mk { c with codes := endC code c.codes, over := true } (by rw [← e2]; exact hw)) (H.ends_n rfl (ResAll.nil) ?_)
    exact ⟨rfl, rfl⟩

/-- What a string may be: no longer than memory lets by. -/
abbrev Sm (l : Bs) : Prop := l.length ≤ 1000000000000000
structure ClOk (c : Cl) : Prop where
  host : Sm c.host
  frm : Sm c.frm
  body : Sm c.body
  targets : ∀ t ∈ c.targets, Sm t
  tlen : c.targets.length ≤ 1000000
  clen : c.codes.length = c.targets.length
  st0 : 0 ≤ c.state
  st1 : c.state ≤ 1000000
  at0 : 0 ≤ c.at_
  at1 : c.at_ ≤ c.targets.length
def Cl.say (c : Cl) (s : Bs) : Cl := { c with out := c.out ++ [s ++ [13, 10]] }
def Cl.fin (c : Cl) (code : Int) : Cl := { c with codes := endC code c.codes, over := true }
def Cl.quit (c : Cl) (code : Int) : Cl := (c.fin code).say [81, 85, 73, 84]
theorem spec_quit (w0 : World) (b : Nat) (c : Cl) (code : Int) (fr : List SProp) (ho : c.out.length ≤ 1000000) :
    Spec Tryd.prog w0 48 [ptr b, num code] (client b c :: fr) (fun v cs' => v = unit ∧ cs' = client b (c.quit code) :: fr) := by
  refine Spec.of_body Tryd.func48 rfl Tryd.ntmps48 rfl ?_
  refine H.seq ?_
  refine H.region ?_
  refine Ops.quiet (Qt.move rfl) rfl ?_
  refine Ops.quiet (Qt.move rfl) rfl ?_
  refine Ops.eff (Ef.call (fok fab_all rfl Tryd.func24 rfl) rfl (spec_end w0 b c code fr)) rfl ?_
  rintro _ _ ⟨rfl, rfl⟩
  refine Ops.nil ?_
  refine H.then_normal ?_
  refine H.region ?_
  refine Ops.quiet (Qt.move rfl) rfl ?_
  refine Ops.eff (Ef.call (fok fab_all rfl Tryd.func59 rfl) rfl (spec_say w0 b (c.fin code) [81, 85, 73, 84] fr ho (by decide))) rfl ?_
  rintro _ _ ⟨rfl, rfl⟩
  refine Ops.nil ?_
  refine (H.ends_n rfl (ResAll.nil) ?_)
  exact ⟨rfl, rfl⟩

def Cl.next (c : Cl) : Cl :=
  let d := { c with state := c.state + 1 }
  if c.state + 1 = 1 then d.say ([69, 72, 76, 79, 32] ++ c.host)
  else if c.state + 1 = 2 then d.say ([77, 65, 73, 76, 32, 70, 82, 79, 77, 58, 60] ++ c.frm ++ [62])
  else if c.state + 1 = 3 then d.say ([82, 67, 80, 84, 32, 84, 79, 58, 60] ++ c.targets.getD 0 [] ++ [62])
  else if c.state + 1 = 4 then d.say [68, 65, 84, 65]
  else if c.state + 1 = 5 then { d with out := c.out ++ [c.body] }
  else d
theorem spec_next (w0 : World) (b : Nat) (c : Cl) (fr : List SProp) (hc : ClOk c) (ho : c.out.length ≤ 1000000) (ht : 0 < c.targets.length) :
    Spec Tryd.prog w0 49 [ptr b] (client b c :: fr) (fun v cs' => v = unit ∧ cs' = client b c.next :: fr) := by
  obtain ⟨hc1, hc2, hc3, hc4, hc5, hc6, hc7, hc8, hc9, hc10⟩ := hc
  have ht0 : Sm (c.targets.getD 0 []) := hc4 _ (by rw [List.getD_eq_getElem?_getD, List.getElem?_eq_getElem ht]; simp)
  have ht1 : Sm (c.targets.getD (Int.toNat 0) []) := ht0
  refine Spec.of_body Tryd.func49 rfl Tryd.ntmps49 rfl ?_
  refine H.open_client fun tA tn tc lp rp oA on oc cA cn cc ⟨tl1, tl2, tl3⟩ ⟨ol1, ol2, ol3⟩ ⟨cl1, cl2, cl3⟩ => ?_
  refine H.seq ?_
  refine H.region ?_
  refine Ops.quiet (Qt.move rfl) rfl ?_
  refine Ops.quiet (Qt.nilCheck rfl) rfl ?_
  refine Ops.quiet (Qt.fieldAddr rfl (tk rfl) rfl) rfl ?_
  refine Ops.quiet (Qt.load rfl (tk rfl) rfl (by repeat (first | exact List.Mem.head _ | apply List.Mem.tail)) (by rfl)) rfl ?_
  refine Ops.quiet (Qt.add64 rfl rfl (by omega) (by omega)) rfl ?_
  refine Ops.quiet (Qt.nilCheck rfl) rfl ?_
  refine Ops.quiet (Qt.fieldAddr rfl (tk rfl) rfl) rfl ?_
  refine Ops.eff (Ef.store rfl rfl (tk rfl) rfl rfl (by repeat (first | exact ones_nil | refine ones_cons rfl ?_)) (by repeat (first | exact Upd.head | apply Upd.tail)) (by rfl)) rfl ?_
  rintro _ _ rfl
  refine Ops.nil ?_
  refine H.then_normal ?_
  refine H.seq ?_
  refine H.region ?_
  refine Ops.quiet (Qt.move rfl) rfl ?_
  refine Ops.quiet (Qt.nilCheck rfl) rfl ?_
  refine Ops.quiet (Qt.fieldAddr rfl (tk rfl) rfl) rfl ?_
  refine Ops.quiet (Qt.load rfl (tk rfl) rfl (by repeat (first | exact List.Mem.head _ | apply List.Mem.tail)) (by rfl)) rfl ?_
  refine Ops.nil ?_
  refine H.then_normal ?_
  refine H.block ?_
  refine H.seq ?_
  refine H.region ?_
  refine Ops.quiet (Qt.eql rfl rfl) rfl ?_
  refine Ops.quiet (Qt.assign rfl) rfl ?_
  refine Ops.nil ?_
  refine H.then_normal ?_
  refine H.cond rfl (fun h13 => ?_) (fun h13 => ?_)
  · try simp only [decide_eq_true_eq, decide_eq_false_iff_not, beq_iff_eq, beq_eq_false_iff_ne, bne_iff_ne, ne_eq, Bool.not_eq_true', Bool.not_eq_false', bne_eq_false_iff_eq, Bool.not_eq_eq_eq_not, Bool.not_true, Bool.not_false] at h13
    refine H.region ?_
    refine Ops.quiet (Qt.move rfl) rfl ?_
    refine Ops.quiet (Qt.move rfl) rfl ?_
    refine Ops.quiet (Qt.nilCheck rfl) rfl ?_
    refine Ops.quiet (Qt.fieldAddr rfl (tk rfl) rfl) rfl ?_
    refine Ops.quiet (Qt.load rfl (tk rfl) rfl (by repeat (first | exact List.Mem.head _ | apply List.Mem.tail)) (by rfl)) rfl ?_
    refine Ops.quiet (Qt.cat rfl rfl (by (try simp only [List.length_append, List.length_cons, List.length_nil]); omega)) rfl ?_
    refine H.conv (fun w hw => client_mk { c with state := c.state + 1 } hw) ?_
    refine Ops.eff (Ef.call (fok fab_all rfl Tryd.func59 rfl) rfl (spec_say w0 b { c with state := c.state + 1 } _ fr ho (by (try simp only [List.length_append, List.length_cons, List.length_nil]); omega))) rfl ?_
    rintro _ _ ⟨rfl, rfl⟩
    refine Ops.nil ?_
    refine H.blk_normal ?_
    refine (H.ends_n rfl (ResAll.nil) ?_)
    refine ⟨rfl, ?_⟩
    unfold Cl.next
    first | rw [if_pos h13] | rw [if_neg h13, if_pos h22] | rw [if_neg h13, if_neg h22, if_pos h32] | rw [if_neg h13, if_neg h22, if_neg h32, if_pos h44]
    first | rfl | done
  · try simp only [decide_eq_true_eq, decide_eq_false_iff_not, beq_iff_eq, beq_eq_false_iff_ne, bne_iff_ne, ne_eq, Bool.not_eq_true', Bool.not_eq_false', bne_eq_false_iff_eq, Bool.not_eq_eq_eq_not, Bool.not_true, Bool.not_false] at h13
    refine H.seq ?_
    refine H.region ?_
    refine Ops.quiet (Qt.eql rfl rfl) rfl ?_
    refine Ops.quiet (Qt.assign rfl) rfl ?_
    refine Ops.nil ?_
    refine H.then_normal ?_
    refine H.cond rfl (fun h22 => ?_) (fun h22 => ?_)
    · try simp only [decide_eq_true_eq, decide_eq_false_iff_not, beq_iff_eq, beq_eq_false_iff_ne, bne_iff_ne, ne_eq, Bool.not_eq_true', Bool.not_eq_false', bne_eq_false_iff_eq, Bool.not_eq_eq_eq_not, Bool.not_true, Bool.not_false] at h22
      refine H.region ?_
      refine Ops.quiet (Qt.move rfl) rfl ?_
      refine Ops.quiet (Qt.move rfl) rfl ?_
      refine Ops.quiet (Qt.nilCheck rfl) rfl ?_
      refine Ops.quiet (Qt.fieldAddr rfl (tk rfl) rfl) rfl ?_
      refine Ops.quiet (Qt.load rfl (tk rfl) rfl (by repeat (first | exact List.Mem.head _ | apply List.Mem.tail)) (by rfl)) rfl ?_
      refine Ops.quiet (Qt.cat rfl rfl (by (try simp only [List.length_append, List.length_cons, List.length_nil]); omega)) rfl ?_
      refine Ops.quiet (Qt.cat rfl rfl (by (try simp only [List.length_append, List.length_cons, List.length_nil]); omega)) rfl ?_
      refine H.conv (fun w hw => client_mk { c with state := c.state + 1 } hw) ?_
      refine Ops.eff (Ef.call (fok fab_all rfl Tryd.func59 rfl) rfl (spec_say w0 b { c with state := c.state + 1 } _ fr ho (by (try simp only [List.length_append, List.length_cons, List.length_nil]); omega))) rfl ?_
      rintro _ _ ⟨rfl, rfl⟩
      refine Ops.nil ?_
      refine H.blk_normal ?_
      refine (H.ends_n rfl (ResAll.nil) ?_)
      refine ⟨rfl, ?_⟩
      unfold Cl.next
      first | rw [if_pos h13] | rw [if_neg h13, if_pos h22] | rw [if_neg h13, if_neg h22, if_pos h32] | rw [if_neg h13, if_neg h22, if_neg h32, if_pos h44]
      first | rfl | done
    · try simp only [decide_eq_true_eq, decide_eq_false_iff_not, beq_iff_eq, beq_eq_false_iff_ne, bne_iff_ne, ne_eq, Bool.not_eq_true', Bool.not_eq_false', bne_eq_false_iff_eq, Bool.not_eq_eq_eq_not, Bool.not_true, Bool.not_false] at h22
      refine H.seq ?_
      refine H.region ?_
      refine Ops.quiet (Qt.eql rfl rfl) rfl ?_
      refine Ops.quiet (Qt.assign rfl) rfl ?_
      refine Ops.nil ?_
      refine H.then_normal ?_
      refine H.cond rfl (fun h32 => ?_) (fun h32 => ?_)
      · try simp only [decide_eq_true_eq, decide_eq_false_iff_not, beq_iff_eq, beq_eq_false_iff_ne, bne_iff_ne, ne_eq, Bool.not_eq_true', Bool.not_eq_false', bne_eq_false_iff_eq, Bool.not_eq_eq_eq_not, Bool.not_true, Bool.not_false] at h32
        refine H.region ?_
        refine Ops.quiet (Qt.move rfl) rfl ?_
        refine Ops.quiet (Qt.move rfl) rfl ?_
        refine Ops.quiet (Qt.nilCheck rfl) rfl ?_
        refine Ops.quiet (Qt.fieldAddr rfl (tk rfl) rfl) rfl ?_
        refine Ops.quiet (Qt.load rfl (tk rfl) rfl (by repeat (first | exact List.Mem.head _ | apply List.Mem.tail)) (by rfl)) rfl ?_
        refine Ops.quiet (Qt.indexAddr rfl rfl (tk rfl) (tk rfl) rfl (by repeat (first | assumption | exact Reads.of_head | apply Reads.tail)) (by omega) (by omega)) rfl ?_
        refine Ops.quiet (Qt.load_map ([] : List UInt8) rfl (tk rfl) rfl (by repeat (first | assumption | exact Reads.of_head | apply Reads.tail)) (by omega)) rfl ?_
        refine Ops.quiet (Qt.cat rfl rfl (by (try simp only [List.length_append, List.length_cons, List.length_nil]); omega)) rfl ?_
        refine Ops.quiet (Qt.cat rfl rfl (by (try simp only [List.length_append, List.length_cons, List.length_nil]); omega)) rfl ?_
        refine H.conv (fun w hw => client_mk { c with state := c.state + 1 } hw) ?_
        refine Ops.eff (Ef.call (fok fab_all rfl Tryd.func59 rfl) rfl (spec_say w0 b { c with state := c.state + 1 } _ fr ho (by (try simp only [List.length_append, List.length_cons, List.length_nil]); omega))) rfl ?_
        rintro _ _ ⟨rfl, rfl⟩
        refine Ops.nil ?_
        refine H.blk_normal ?_
        refine (H.ends_n rfl (ResAll.nil) ?_)
        refine ⟨rfl, ?_⟩
        unfold Cl.next
        first | rw [if_pos h13] | rw [if_neg h13, if_pos h22] | rw [if_neg h13, if_neg h22, if_pos h32] | rw [if_neg h13, if_neg h22, if_neg h32, if_pos h44]
        first | rfl | done
      · try simp only [decide_eq_true_eq, decide_eq_false_iff_not, beq_iff_eq, beq_eq_false_iff_ne, bne_iff_ne, ne_eq, Bool.not_eq_true', Bool.not_eq_false', bne_eq_false_iff_eq, Bool.not_eq_eq_eq_not, Bool.not_true, Bool.not_false] at h32
        refine H.seq ?_
        refine H.region ?_
        refine Ops.quiet (Qt.eql rfl rfl) rfl ?_
        refine Ops.quiet (Qt.assign rfl) rfl ?_
        refine Ops.nil ?_
        refine H.then_normal ?_
        refine H.cond rfl (fun h44 => ?_) (fun h44 => ?_)
        · try simp only [decide_eq_true_eq, decide_eq_false_iff_not, beq_iff_eq, beq_eq_false_iff_ne, bne_iff_ne, ne_eq, Bool.not_eq_true', Bool.not_eq_false', bne_eq_false_iff_eq, Bool.not_eq_eq_eq_not, Bool.not_true, Bool.not_false] at h44
          refine H.region ?_
          refine Ops.quiet (Qt.move rfl) rfl ?_
          refine H.conv (fun w hw => client_mk { c with state := c.state + 1 } hw) ?_
          refine Ops.eff (Ef.call (fok fab_all rfl Tryd.func59 rfl) rfl (spec_say w0 b { c with state := c.state + 1 } _ fr ho (by (try simp only [List.length_append, List.length_cons, List.length_nil]); omega))) rfl ?_
          rintro _ _ ⟨rfl, rfl⟩
          refine Ops.nil ?_
          refine H.blk_normal ?_
          refine (H.ends_n rfl (ResAll.nil) ?_)
          refine ⟨rfl, ?_⟩
          unfold Cl.next
          first | rw [if_pos h13] | rw [if_neg h13, if_pos h22] | rw [if_neg h13, if_neg h22, if_pos h32] | rw [if_neg h13, if_neg h22, if_neg h32, if_pos h44]
          first | rfl | done
        · try simp only [decide_eq_true_eq, decide_eq_false_iff_not, beq_iff_eq, beq_eq_false_iff_ne, bne_iff_ne, ne_eq, Bool.not_eq_true', Bool.not_eq_false', bne_eq_false_iff_eq, Bool.not_eq_eq_eq_not, Bool.not_true, Bool.not_false] at h44
          refine H.seq ?_
          refine H.region ?_
          refine Ops.quiet (Qt.eql rfl rfl) rfl ?_
          refine Ops.quiet (Qt.assign rfl) rfl ?_
          refine Ops.nil ?_
          refine H.then_normal ?_
          refine H.cond rfl (fun h48 => ?_) (fun h48 => ?_)
          · try simp only [decide_eq_true_eq, decide_eq_false_iff_not, beq_iff_eq, beq_eq_false_iff_ne, bne_iff_ne, ne_eq, Bool.not_eq_true', Bool.not_eq_false', bne_eq_false_iff_eq, Bool.not_eq_eq_eq_not, Bool.not_true, Bool.not_false] at h48
            refine H.drawn ([blk b (setL [str c.host, str c.frm, .slice tA tn tc, str c.body, .pointer (some ⟨lp, 0, none⟩), .pointer (some ⟨rp, 0, none⟩), .slice oA on oc, num c.state, num c.at_, .slice cA cn cc, bol c.over] (0 + 7) (num (c.state + 1)).cells.toList) 51]) 11 mixed (by kernel_rfl) ?_
            refine Hd.quiet 0 (by kernel_rfl) rfl rfl (by kernel_rfl) rfl (Qt.move rfl) ?_
            refine Hd.quiet 1 (by kernel_rfl) rfl rfl (by kernel_rfl) rfl (Qt.move rfl) ?_
            refine Hd.quiet 2 (by kernel_rfl) rfl rfl (by kernel_rfl) rfl (Qt.nilCheck rfl) ?_
            refine Hd.quiet 3 (by kernel_rfl) rfl rfl (by kernel_rfl) rfl (Qt.fieldAddr rfl (tk rfl) rfl) ?_
            refine Hd.quiet 4 (by kernel_rfl) rfl rfl (by kernel_rfl) rfl (Qt.load rfl (tk rfl) rfl (by repeat (first | exact List.Mem.head _ | apply List.Mem.tail)) (by rfl)) ?_
            refine Hd.quiet 5 (by kernel_rfl) rfl rfl (by kernel_rfl) rfl (Qt.move rfl) ?_
            refine Hd.quiet 6 (by kernel_rfl) rfl rfl (by kernel_rfl) rfl (Qt.nilCheck rfl) ?_
            refine Hd.quiet 7 (by kernel_rfl) rfl rfl (by kernel_rfl) rfl (Qt.fieldAddr rfl (tk rfl) rfl) ?_
            refine Hd.quiet 8 (by kernel_rfl) rfl rfl (by kernel_rfl) rfl (Qt.load rfl (tk rfl) rfl (by repeat (first | exact List.Mem.head _ | apply List.Mem.tail)) (by rfl)) ?_
            refine Hd.eff 9 (by intro w hw; first | exact hw | exact Own.sub (by repeat (first | exact List.Sublist.refl _ | exact List.nil_sublist _ | apply List.Sublist.cons_cons | apply List.Sublist.cons)) hw) rfl rfl (by kernel_rfl) rfl (Ef.buildSlice (tk rfl) (tk rfl) rfl (zk rfl) rfl rfl rfl (by repeat (first | exact ones_nil | refine ones_cons rfl ?_))) ?_
            rintro _ _ ⟨A59, c59, rfl, rfl⟩
            refine Hd.eff 10 (by intro w hw; first | exact hw | exact Own.sub (by repeat (first | exact List.Sublist.refl _ | exact List.nil_sublist _ | apply List.Sublist.cons_cons | apply List.Sublist.cons)) hw) rfl rfl (by kernel_rfl) rfl (Ef.append1 rfl rfl (tk rfl) (tk rfl) rfl (zk rfl) (by repeat (first | assumption | exact Reads.of_head | apply Reads.tail)) (by intro _ _; repeat (first | exact Upd.head | apply Upd.tail)) (fun _ => rfl) (by dsimp only; omega) (by simp only [maxLen]; omega)) ?_
            rintro _ _ ⟨A60, c60, rfl, rfl⟩
            refine Hd.tail (by intro w hw; first | exact hw | exact Own.sub (by repeat (first | exact List.Sublist.refl _ | exact List.nil_sublist _ | apply List.Sublist.cons_cons | apply List.Sublist.cons)) hw) (by kernel_rfl) rfl ?_
            refine Ops.quiet (Qt.nilCheck rfl) rfl ?_
            refine Ops.quiet (Qt.fieldAddr rfl (tk rfl) rfl) rfl ?_
            refine Ops.eff (Ef.store rfl rfl (tk rfl) rfl rfl (by repeat (first | exact ones_nil | refine ones_cons rfl ?_)) (by repeat (first | exact Upd.head | apply Upd.tail)) (by rfl)) rfl ?_
            rintro _ _ rfl
            refine Ops.nil ?_
            refine H.blk_normal ?_
            refine H.conv (fun w hw => client_mk { c with state := c.state + 1, out := c.out ++ [c.body] } hw.tail) (H.ends_n rfl (ResAll.nil) ?_)
            refine ⟨rfl, ?_⟩
            unfold Cl.next
            rw [if_neg h13, if_neg h22, if_neg h32, if_neg h44, if_pos h48]
          · try simp only [decide_eq_true_eq, decide_eq_false_iff_not, beq_iff_eq, beq_eq_false_iff_ne, bne_iff_ne, ne_eq, Bool.not_eq_true', Bool.not_eq_false', bne_eq_false_iff_eq, Bool.not_eq_eq_eq_not, Bool.not_true, Bool.not_false] at h48
            refine H.skip ?_
            refine H.blk_normal ?_
            refine H.conv (fun w hw => client_mk { c with state := c.state + 1 } hw) (H.ends_n rfl (ResAll.nil) ?_)
            refine ⟨rfl, ?_⟩
            unfold Cl.next
            rw [if_neg h13, if_neg h22, if_neg h32, if_neg h44, if_neg h48]

def Cl.t1 (c : Cl) (code : Int) : Cl := if code ≠ 250 ∧ code ≠ 251 then { c with codes := c.codes.set c.at_.toNat code, at_ := c.at_ + 1 } else { c with at_ := c.at_ + 1 }
def Cl.t2 (d : Cl) : Cl :=
  if d.at_ < d.targets.length then d.say ([82, 67, 80, 84, 32, 84, 79, 58, 60] ++ d.targets.getD d.at_.toNat [] ++ [62])
  else if d.codes.contains 0 then d.next else d.quit 0
def Cl.target (c : Cl) (code : Int) : Cl := (c.t1 code).t2
theorem Cl.t1_same (c : Cl) (code : Int) : (c.t1 code).host = c.host ∧ (c.t1 code).frm = c.frm ∧ (c.t1 code).targets = c.targets ∧ (c.t1 code).body = c.body ∧ (c.t1 code).out = c.out ∧ (c.t1 code).state = c.state ∧ (c.t1 code).at_ = c.at_ + 1 ∧ (c.t1 code).codes.length = c.codes.length := by
  unfold Cl.t1
  split <;> simp
theorem Cl.t1_ok {c : Cl} (hc : ClOk c) (h : c.at_ < c.targets.length) (code : Int) : ClOk (c.t1 code) := by
  obtain ⟨e1, e2, e3, e4, e5, e6, e7, e8⟩ := c.t1_same code
  obtain ⟨hc1, hc2, hc3, hc4, hc5, hc6, hc7, hc8, hc9, hc10⟩ := hc
  exact ⟨by rw [e1]; exact hc1, by rw [e2]; exact hc2, by rw [e4]; exact hc3, by rw [e3]; exact hc4, by rw [e3]; exact hc5, by rw [e8, e3]; exact hc6, by rw [e6]; exact hc7, by rw [e6]; exact hc8, by rw [e7]; omega, by rw [e7, e3]; omega⟩
theorem spec_target (w0 : World) (b : Nat) (c : Cl) (code : Int) (fr : List SProp) (hc : ClOk c) (ho : c.out.length ≤ 1000000) (ha : c.at_ < c.targets.length) :
    Spec Tryd.prog w0 46 [ptr b, num code] (client b c :: fr) (fun v cs' => v = unit ∧ cs' = client b (c.target code) :: fr) := by
  have hok := Cl.t1_ok hc ha code
  obtain ⟨e1, e2, e3, e4, e5, e6, e7, e8⟩ := c.t1_same code
  obtain ⟨hc1, hc2, hc3, hc4, hc5, hc6, hc7, hc8, hc9, hc10⟩ := hc
  unfold Cl.target
  obtain ⟨d, hd⟩ : ∃ d, d = c.t1 code := ⟨_, rfl⟩
  rw [← hd] at hok e3 e5 e7 ⊢
  clear e1 e2 e4 e6 e8
  obtain ⟨hd1, hd2, hd3, hd4, hd5, hd6, hd7, hd8, hd9, hd10⟩ := id hok
  refine Spec.of_body Tryd.func46 rfl Tryd.ntmps46 rfl ?_
  refine H.open_client fun tA tn tc lp rp oA on oc cA cn cc ⟨tl1, tl2, tl3⟩ ⟨ol1, ol2, ol3⟩ ⟨cl1, cl2, cl3⟩ => ?_
  refine H.seq ?_
  refine H.seq ?_
  refine H.region ?_
  refine Ops.quiet (Qt.move rfl) rfl ?_
  refine Ops.quiet (Qt.neq rfl rfl) rfl ?_
  refine Ops.quiet (Qt.move rfl) rfl ?_
  refine Ops.guard rfl rfl rfl rfl (fun g6 => ?_) (fun g6 => ?_)
  · have g6' := g6
    try simp only [decide_eq_true_eq, decide_eq_false_iff_not, beq_iff_eq, beq_eq_false_iff_ne, bne_iff_ne, ne_eq, Bool.not_eq_true', Bool.not_eq_false', bne_eq_false_iff_eq, Bool.not_eq_eq_eq_not, Bool.not_true, Bool.not_false] at g6'
    refine Ops.quiet (Qt.move rfl) rfl ?_
    refine Ops.guard_yes rfl rfl rfl rfl g6 ?_
    refine Ops.quiet (Qt.neq rfl rfl) rfl ?_
    refine Ops.quiet (Qt.pick_t rfl rfl g6) rfl ?_
    refine Ops.nil ?_
    refine H.then_normal ?_
    refine H.cond rfl (fun h9 => ?_) (fun h9 => ?_)
    · try simp only [decide_eq_true_eq, decide_eq_false_iff_not, beq_iff_eq, beq_eq_false_iff_ne, bne_iff_ne, ne_eq, Bool.not_eq_true', Bool.not_eq_false', bne_eq_false_iff_eq, Bool.not_eq_eq_eq_not, Bool.not_true, Bool.not_false] at h9
      refine H.drawn_all 9 mixed (by kernel_rfl) ?_
      refine Hd.quiet 0 (by kernel_rfl) rfl rfl (by kernel_rfl) rfl (Qt.move rfl) ?_
      refine Hd.quiet 1 (by kernel_rfl) rfl rfl (by kernel_rfl) rfl (Qt.nilCheck rfl) ?_
      refine Hd.quiet 2 (by kernel_rfl) rfl rfl (by kernel_rfl) rfl (Qt.fieldAddr rfl (tk rfl) rfl) ?_
      refine Hd.quiet 3 (by kernel_rfl) rfl rfl (by kernel_rfl) rfl (Qt.load rfl (tk rfl) rfl (by repeat (first | exact List.Mem.head _ | apply List.Mem.tail)) (by rfl)) ?_
      refine Hd.quiet 4 (by kernel_rfl) rfl rfl (by kernel_rfl) rfl (Qt.move rfl) ?_
      refine Hd.quiet 5 (by kernel_rfl) rfl rfl (by kernel_rfl) rfl (Qt.nilCheck rfl) ?_
      refine Hd.quiet 6 (by kernel_rfl) rfl rfl (by kernel_rfl) rfl (Qt.fieldAddr rfl (tk rfl) rfl) ?_
      refine Hd.quiet 7 (by kernel_rfl) rfl rfl (by kernel_rfl) rfl (Qt.load rfl (tk rfl) rfl (by repeat (first | exact List.Mem.head _ | apply List.Mem.tail)) (by rfl)) ?_
      refine Hd.quiet 8 (by kernel_rfl) rfl rfl (by kernel_rfl) rfl (Qt.move rfl) ?_
      refine Hd.tail (by intro w hw; first | exact hw | exact Own.sub (by repeat (first | exact List.Sublist.refl _ | exact List.nil_sublist _ | apply List.Sublist.cons_cons | apply List.Sublist.cons)) hw) (by kernel_rfl) rfl ?_
      refine Ops.quiet (Qt.indexAddr rfl rfl (tk rfl) (tk rfl) rfl (by repeat (first | assumption | exact Reads.of_head | apply Reads.tail)) (by omega) (by omega)) rfl ?_
      refine Ops.eff (Ef.store_map rfl rfl (tk rfl) rfl (fun _ => rfl) (by repeat (first | exact Upd.head | apply Upd.tail)) (by omega)) rfl ?_
      rintro _ _ rfl
      refine Ops.nil ?_
      refine H.then_normal ?_
      refine H.seq ?_
      refine H.region ?_
      refine Ops.quiet (Qt.move rfl) rfl ?_
      refine Ops.quiet (Qt.nilCheck rfl) rfl ?_
      refine Ops.quiet (Qt.fieldAddr rfl (tk rfl) rfl) rfl ?_
      refine Ops.quiet (Qt.load rfl (tk rfl) rfl (by repeat (first | exact List.Mem.head _ | apply List.Mem.tail)) (by rfl)) rfl ?_
      refine Ops.quiet (Qt.add64 rfl rfl (by omega) (by omega)) rfl ?_
      refine Ops.quiet (Qt.nilCheck rfl) rfl ?_
      refine Ops.quiet (Qt.fieldAddr rfl (tk rfl) rfl) rfl ?_
      refine Ops.eff (Ef.store rfl rfl (tk rfl) rfl rfl (by repeat (first | exact ones_nil | refine ones_cons rfl ?_)) (by repeat (first | exact Upd.head | apply Upd.tail)) (by rfl)) rfl ?_
      rintro _ _ rfl
      refine Ops.nil ?_
      refine H.then_normal ?_
      refine H.block ?_
      refine H.seq ?_
      refine H.conv (cs' := client b d :: fr) (fun w hw => by rw [hd, Cl.t1, if_pos ⟨g6', h9⟩]; exact client_mk { c with codes := c.codes.set c.at_.toNat code, at_ := c.at_ + 1 } hw) ?_
      clear tl1 tl2 tl3 ol1 ol2 ol3 cl1 cl2 cl3
      refine H.open_client fun tA tn tc lp rp oA on oc cA cn cc ⟨tl1, tl2, tl3⟩ ⟨ol1, ol2, ol3⟩ ⟨cl1, cl2, cl3⟩ => ?_
      refine H.drawn_all 9 mixed (by kernel_rfl) ?_
      refine Hd.quiet 0 (by kernel_rfl) rfl rfl (by kernel_rfl) rfl (Qt.move rfl) ?_
      refine Hd.quiet 1 (by kernel_rfl) rfl rfl (by kernel_rfl) rfl (Qt.nilCheck rfl) ?_
      refine Hd.quiet 2 (by kernel_rfl) rfl rfl (by kernel_rfl) rfl (Qt.fieldAddr rfl (tk rfl) rfl) ?_
      refine Hd.quiet 3 (by kernel_rfl) rfl rfl (by kernel_rfl) rfl (Qt.load rfl (tk rfl) rfl (by repeat (first | exact List.Mem.head _ | apply List.Mem.tail)) (by rfl)) ?_
      refine Hd.quiet 4 (by kernel_rfl) rfl rfl (by kernel_rfl) rfl (Qt.move rfl) ?_
      refine Hd.quiet 5 (by kernel_rfl) rfl rfl (by kernel_rfl) rfl (Qt.nilCheck rfl) ?_
      refine Hd.quiet 6 (by kernel_rfl) rfl rfl (by kernel_rfl) rfl (Qt.fieldAddr rfl (tk rfl) rfl) ?_
      refine Hd.quiet 7 (by kernel_rfl) rfl rfl (by kernel_rfl) rfl (Qt.load rfl (tk rfl) rfl (by repeat (first | exact List.Mem.head _ | apply List.Mem.tail)) (by rfl)) ?_
      refine Hd.quiet 8 (by kernel_rfl) rfl rfl (by kernel_rfl) rfl (Qt.len_sl (ats := #[]) rfl (tk rfl)) ?_
      refine Hd.tail (by intro w hw; first | exact hw | exact Own.sub (by repeat (first | exact List.Sublist.refl _ | exact List.nil_sublist _ | apply List.Sublist.cons_cons | apply List.Sublist.cons)) hw) (by kernel_rfl) rfl ?_
      refine Ops.quiet (Qt.lss rfl rfl) rfl ?_
      refine Ops.quiet (Qt.assign rfl) rfl ?_
      refine Ops.nil ?_
      refine H.then_normal ?_
      refine H.cond rfl (fun h29 => ?_) (fun h29 => ?_)
      · try simp only [decide_eq_true_eq, decide_eq_false_iff_not, beq_iff_eq, beq_eq_false_iff_ne, bne_iff_ne, ne_eq, Bool.not_eq_true', Bool.not_eq_false', bne_eq_false_iff_eq, Bool.not_eq_eq_eq_not, Bool.not_true, Bool.not_false] at h29
        have hat : Sm (d.targets.getD d.at_.toNat []) := hd4 _ (by rw [List.getD_eq_getElem?_getD, List.getElem?_eq_getElem (show d.at_.toNat < d.targets.length by omega)]; simp)
        refine H.drawn_all 13 mixed (by kernel_rfl) ?_
        refine Hd.quiet 0 (by kernel_rfl) rfl rfl (by kernel_rfl) rfl (Qt.move rfl) ?_
        refine Hd.quiet 1 (by kernel_rfl) rfl rfl (by kernel_rfl) rfl (Qt.move rfl) ?_
        refine Hd.quiet 2 (by kernel_rfl) rfl rfl (by kernel_rfl) rfl (Qt.nilCheck rfl) ?_
        refine Hd.quiet 3 (by kernel_rfl) rfl rfl (by kernel_rfl) rfl (Qt.fieldAddr rfl (tk rfl) rfl) ?_
        refine Hd.quiet 4 (by kernel_rfl) rfl rfl (by kernel_rfl) rfl (Qt.load rfl (tk rfl) rfl (by repeat (first | exact List.Mem.head _ | apply List.Mem.tail)) (by rfl)) ?_
        refine Hd.quiet 5 (by kernel_rfl) rfl rfl (by kernel_rfl) rfl (Qt.move rfl) ?_
        refine Hd.quiet 6 (by kernel_rfl) rfl rfl (by kernel_rfl) rfl (Qt.nilCheck rfl) ?_
        refine Hd.quiet 7 (by kernel_rfl) rfl rfl (by kernel_rfl) rfl (Qt.fieldAddr rfl (tk rfl) rfl) ?_
        refine Hd.quiet 8 (by kernel_rfl) rfl rfl (by kernel_rfl) rfl (Qt.load rfl (tk rfl) rfl (by repeat (first | exact List.Mem.head _ | apply List.Mem.tail)) (by rfl)) ?_
        refine Hd.quiet 9 (by kernel_rfl) rfl rfl (by kernel_rfl) rfl (Qt.indexAddr rfl rfl (tk rfl) (tk rfl) rfl (by repeat (first | assumption | exact Reads.of_head | apply Reads.tail)) (by omega) (by omega)) ?_
        refine Hd.quiet 10 (by kernel_rfl) rfl rfl (by kernel_rfl) rfl (Qt.load_map ([] : List UInt8) rfl (tk rfl) rfl (by repeat (first | assumption | exact Reads.of_head | apply Reads.tail)) (by omega)) ?_
        refine Hd.quiet 11 (by kernel_rfl) rfl rfl (by kernel_rfl) rfl (Qt.cat rfl rfl (by (try simp only [List.length_append, List.length_cons, List.length_nil]); omega)) ?_
        refine Hd.quiet 12 (by kernel_rfl) rfl rfl (by kernel_rfl) rfl (Qt.cat rfl rfl (by (try simp only [List.length_append, List.length_cons, List.length_nil]); omega)) ?_
        refine Hd.tail (by intro w hw; first | exact hw | exact Own.sub (by repeat (first | exact List.Sublist.refl _ | exact List.nil_sublist _ | apply List.Sublist.cons_cons | apply List.Sublist.cons)) hw) (by kernel_rfl) rfl ?_
        refine H.conv (fun w hw => client_mk d hw) ?_
        refine Ops.eff (Ef.call (fok fab_all rfl Tryd.func59 rfl) rfl (spec_say w0 b d _ fr (by rw [e5]; exact ho) (by (try simp only [List.length_append, List.length_cons, List.length_nil]); omega))) rfl ?_
        rintro _ _ ⟨rfl, rfl⟩
        refine Ops.nil ?_
        refine H.blk_normal ?_
        refine (H.ends_n rfl (ResAll.nil) ?_)
        refine ⟨rfl, ?_⟩
        unfold Cl.t2
        rw [tl1]
        first | rw [if_pos h29]; rfl | rw [if_neg h29, if_pos h54] | (rw [if_neg h29, if_neg (by rw [h54]; simp)])
      · try simp only [decide_eq_true_eq, decide_eq_false_iff_not, beq_iff_eq, beq_eq_false_iff_ne, bne_iff_ne, ne_eq, Bool.not_eq_true', Bool.not_eq_false', bne_eq_false_iff_eq, Bool.not_eq_eq_eq_not, Bool.not_true, Bool.not_false] at h29
        refine H.seq ?_
        refine H.region ?_
        refine Ops.quiet (Qt.move rfl) rfl ?_
        refine Ops.quiet (Qt.nilCheck rfl) rfl ?_
        refine Ops.quiet (Qt.fieldAddr rfl (tk rfl) rfl) rfl ?_
        refine Ops.quiet (Qt.load rfl (tk rfl) rfl (by repeat (first | exact List.Mem.head _ | apply List.Mem.tail)) (by rfl)) rfl ?_
        refine Ops.eff (Ef.call (fok fab_all rfl Tryd.func60 rfl) rfl (spec_icontains (by repeat (first | assumption | exact Reads.of_head | apply Reads.tail)) 0)) rfl ?_
        rintro _ _ ⟨rfl, rfl⟩
        refine Ops.quiet (Qt.assign rfl) rfl ?_
        refine Ops.nil ?_
        refine H.then_normal ?_
        refine H.cond rfl (fun h54 => ?_) (fun h54 => ?_)
        · try simp only [decide_eq_true_eq, decide_eq_false_iff_not, beq_iff_eq, beq_eq_false_iff_ne, bne_iff_ne, ne_eq, Bool.not_eq_true', Bool.not_eq_false', bne_eq_false_iff_eq, Bool.not_eq_eq_eq_not, Bool.not_true, Bool.not_false] at h54
          refine H.region ?_
          refine Ops.quiet (Qt.move rfl) rfl ?_
          refine H.conv (fun w hw => client_mk d hw) ?_
          refine Ops.eff (Ef.call (fok fab_all rfl Tryd.func49 rfl) rfl (spec_next w0 b d fr hok (by rw [e5]; exact ho) (by omega))) rfl ?_
          rintro _ _ ⟨rfl, rfl⟩
          refine Ops.nil ?_
          refine H.blk_normal ?_
          refine (H.ends_n rfl (ResAll.nil) ?_)
          refine ⟨rfl, ?_⟩
          unfold Cl.t2
          rw [tl1]
          first | rw [if_pos h29]; rfl | rw [if_neg h29, if_pos h54] | (rw [if_neg h29, if_neg (by rw [h54]; simp)])
        · try simp only [decide_eq_true_eq, decide_eq_false_iff_not, beq_iff_eq, beq_eq_false_iff_ne, bne_iff_ne, ne_eq, Bool.not_eq_true', Bool.not_eq_false', bne_eq_false_iff_eq, Bool.not_eq_eq_eq_not, Bool.not_true, Bool.not_false] at h54
          refine H.region ?_
          refine Ops.quiet (Qt.move rfl) rfl ?_
          refine H.conv (fun w hw => client_mk d hw) ?_
          refine Ops.eff (Ef.call (fok fab_all rfl Tryd.func48 rfl) rfl (spec_quit w0 b d 0 fr (by rw [e5]; exact ho))) rfl ?_
          rintro _ _ ⟨rfl, rfl⟩
          refine Ops.nil ?_
          refine H.blk_normal ?_
          refine (H.ends_n rfl (ResAll.nil) ?_)
          refine ⟨rfl, ?_⟩
          unfold Cl.t2
          rw [tl1]
          first | rw [if_pos h29]; rfl | rw [if_neg h29, if_pos h54] | (rw [if_neg h29, if_neg (by rw [h54]; simp)])
    · try simp only [decide_eq_true_eq, decide_eq_false_iff_not, beq_iff_eq, beq_eq_false_iff_ne, bne_iff_ne, ne_eq, Bool.not_eq_true', Bool.not_eq_false', bne_eq_false_iff_eq, Bool.not_eq_eq_eq_not, Bool.not_true, Bool.not_false] at h9
      refine H.skip ?_
      refine H.then_normal ?_
      refine H.seq ?_
      refine H.region ?_
      refine Ops.quiet (Qt.move rfl) rfl ?_
      refine Ops.quiet (Qt.nilCheck rfl) rfl ?_
      refine Ops.quiet (Qt.fieldAddr rfl (tk rfl) rfl) rfl ?_
      refine Ops.quiet (Qt.load rfl (tk rfl) rfl (by repeat (first | exact List.Mem.head _ | apply List.Mem.tail)) (by rfl)) rfl ?_
      refine Ops.quiet (Qt.add64 rfl rfl (by omega) (by omega)) rfl ?_
      refine Ops.quiet (Qt.nilCheck rfl) rfl ?_
      refine Ops.quiet (Qt.fieldAddr rfl (tk rfl) rfl) rfl ?_
      refine Ops.eff (Ef.store rfl rfl (tk rfl) rfl rfl (by repeat (first | exact ones_nil | refine ones_cons rfl ?_)) (by repeat (first | exact Upd.head | apply Upd.tail)) (by rfl)) rfl ?_
      rintro _ _ rfl
      refine Ops.nil ?_
      refine H.then_normal ?_
      refine H.block ?_
      refine H.seq ?_
      refine H.conv (cs' := client b d :: fr) (fun w hw => by rw [hd, Cl.t1, if_neg (by intro hx; exact hx.2 h9)]; exact client_mk { c with at_ := c.at_ + 1 } hw) ?_
      clear tl1 tl2 tl3 ol1 ol2 ol3 cl1 cl2 cl3
      refine H.open_client fun tA tn tc lp rp oA on oc cA cn cc ⟨tl1, tl2, tl3⟩ ⟨ol1, ol2, ol3⟩ ⟨cl1, cl2, cl3⟩ => ?_
      refine H.drawn_all 9 mixed (by kernel_rfl) ?_
      refine Hd.quiet 0 (by kernel_rfl) rfl rfl (by kernel_rfl) rfl (Qt.move rfl) ?_
      refine Hd.quiet 1 (by kernel_rfl) rfl rfl (by kernel_rfl) rfl (Qt.nilCheck rfl) ?_
      refine Hd.quiet 2 (by kernel_rfl) rfl rfl (by kernel_rfl) rfl (Qt.fieldAddr rfl (tk rfl) rfl) ?_
      refine Hd.quiet 3 (by kernel_rfl) rfl rfl (by kernel_rfl) rfl (Qt.load rfl (tk rfl) rfl (by repeat (first | exact List.Mem.head _ | apply List.Mem.tail)) (by rfl)) ?_
      refine Hd.quiet 4 (by kernel_rfl) rfl rfl (by kernel_rfl) rfl (Qt.move rfl) ?_
      refine Hd.quiet 5 (by kernel_rfl) rfl rfl (by kernel_rfl) rfl (Qt.nilCheck rfl) ?_
      refine Hd.quiet 6 (by kernel_rfl) rfl rfl (by kernel_rfl) rfl (Qt.fieldAddr rfl (tk rfl) rfl) ?_
      refine Hd.quiet 7 (by kernel_rfl) rfl rfl (by kernel_rfl) rfl (Qt.load rfl (tk rfl) rfl (by repeat (first | exact List.Mem.head _ | apply List.Mem.tail)) (by rfl)) ?_
      refine Hd.quiet 8 (by kernel_rfl) rfl rfl (by kernel_rfl) rfl (Qt.len_sl (ats := #[]) rfl (tk rfl)) ?_
      refine Hd.tail (by intro w hw; first | exact hw | exact Own.sub (by repeat (first | exact List.Sublist.refl _ | exact List.nil_sublist _ | apply List.Sublist.cons_cons | apply List.Sublist.cons)) hw) (by kernel_rfl) rfl ?_
      refine Ops.quiet (Qt.lss rfl rfl) rfl ?_
      refine Ops.quiet (Qt.assign rfl) rfl ?_
      refine Ops.nil ?_
      refine H.then_normal ?_
      refine H.cond rfl (fun h29 => ?_) (fun h29 => ?_)
      · try simp only [decide_eq_true_eq, decide_eq_false_iff_not, beq_iff_eq, beq_eq_false_iff_ne, bne_iff_ne, ne_eq, Bool.not_eq_true', Bool.not_eq_false', bne_eq_false_iff_eq, Bool.not_eq_eq_eq_not, Bool.not_true, Bool.not_false] at h29
        have hat : Sm (d.targets.getD d.at_.toNat []) := hd4 _ (by rw [List.getD_eq_getElem?_getD, List.getElem?_eq_getElem (show d.at_.toNat < d.targets.length by omega)]; simp)
        refine H.drawn_all 13 mixed (by kernel_rfl) ?_
        refine Hd.quiet 0 (by kernel_rfl) rfl rfl (by kernel_rfl) rfl (Qt.move rfl) ?_
        refine Hd.quiet 1 (by kernel_rfl) rfl rfl (by kernel_rfl) rfl (Qt.move rfl) ?_
        refine Hd.quiet 2 (by kernel_rfl) rfl rfl (by kernel_rfl) rfl (Qt.nilCheck rfl) ?_
        refine Hd.quiet 3 (by kernel_rfl) rfl rfl (by kernel_rfl) rfl (Qt.fieldAddr rfl (tk rfl) rfl) ?_
        refine Hd.quiet 4 (by kernel_rfl) rfl rfl (by kernel_rfl) rfl (Qt.load rfl (tk rfl) rfl (by repeat (first | exact List.Mem.head _ | apply List.Mem.tail)) (by rfl)) ?_
        refine Hd.quiet 5 (by kernel_rfl) rfl rfl (by kernel_rfl) rfl (Qt.move rfl) ?_
        refine Hd.quiet 6 (by kernel_rfl) rfl rfl (by kernel_rfl) rfl (Qt.nilCheck rfl) ?_
        refine Hd.quiet 7 (by kernel_rfl) rfl rfl (by kernel_rfl) rfl (Qt.fieldAddr rfl (tk rfl) rfl) ?_
        refine Hd.quiet 8 (by kernel_rfl) rfl rfl (by kernel_rfl) rfl (Qt.load rfl (tk rfl) rfl (by repeat (first | exact List.Mem.head _ | apply List.Mem.tail)) (by rfl)) ?_
        refine Hd.quiet 9 (by kernel_rfl) rfl rfl (by kernel_rfl) rfl (Qt.indexAddr rfl rfl (tk rfl) (tk rfl) rfl (by repeat (first | assumption | exact Reads.of_head | apply Reads.tail)) (by omega) (by omega)) ?_
        refine Hd.quiet 10 (by kernel_rfl) rfl rfl (by kernel_rfl) rfl (Qt.load_map ([] : List UInt8) rfl (tk rfl) rfl (by repeat (first | assumption | exact Reads.of_head | apply Reads.tail)) (by omega)) ?_
        refine Hd.quiet 11 (by kernel_rfl) rfl rfl (by kernel_rfl) rfl (Qt.cat rfl rfl (by (try simp only [List.length_append, List.length_cons, List.length_nil]); omega)) ?_
        refine Hd.quiet 12 (by kernel_rfl) rfl rfl (by kernel_rfl) rfl (Qt.cat rfl rfl (by (try simp only [List.length_append, List.length_cons, List.length_nil]); omega)) ?_
        refine Hd.tail (by intro w hw; first | exact hw | exact Own.sub (by repeat (first | exact List.Sublist.refl _ | exact List.nil_sublist _ | apply List.Sublist.cons_cons | apply List.Sublist.cons)) hw) (by kernel_rfl) rfl ?_
        refine H.conv (fun w hw => client_mk d hw) ?_
        refine Ops.eff (Ef.call (fok fab_all rfl Tryd.func59 rfl) rfl (spec_say w0 b d _ fr (by rw [e5]; exact ho) (by (try simp only [List.length_append, List.length_cons, List.length_nil]); omega))) rfl ?_
        rintro _ _ ⟨rfl, rfl⟩
        refine Ops.nil ?_
        refine H.blk_normal ?_
        refine (H.ends_n rfl (ResAll.nil) ?_)
        refine ⟨rfl, ?_⟩
        unfold Cl.t2
        rw [tl1]
        first | rw [if_pos h29]; rfl | rw [if_neg h29, if_pos h54] | (rw [if_neg h29, if_neg (by rw [h54]; simp)])
      · try simp only [decide_eq_true_eq, decide_eq_false_iff_not, beq_iff_eq, beq_eq_false_iff_ne, bne_iff_ne, ne_eq, Bool.not_eq_true', Bool.not_eq_false', bne_eq_false_iff_eq, Bool.not_eq_eq_eq_not, Bool.not_true, Bool.not_false] at h29
        refine H.seq ?_
        refine H.region ?_
        refine Ops.quiet (Qt.move rfl) rfl ?_
        refine Ops.quiet (Qt.nilCheck rfl) rfl ?_
        refine Ops.quiet (Qt.fieldAddr rfl (tk rfl) rfl) rfl ?_
        refine Ops.quiet (Qt.load rfl (tk rfl) rfl (by repeat (first | exact List.Mem.head _ | apply List.Mem.tail)) (by rfl)) rfl ?_
        refine Ops.eff (Ef.call (fok fab_all rfl Tryd.func60 rfl) rfl (spec_icontains (by repeat (first | assumption | exact Reads.of_head | apply Reads.tail)) 0)) rfl ?_
        rintro _ _ ⟨rfl, rfl⟩
        refine Ops.quiet (Qt.assign rfl) rfl ?_
        refine Ops.nil ?_
        refine H.then_normal ?_
        refine H.cond rfl (fun h54 => ?_) (fun h54 => ?_)
        · try simp only [decide_eq_true_eq, decide_eq_false_iff_not, beq_iff_eq, beq_eq_false_iff_ne, bne_iff_ne, ne_eq, Bool.not_eq_true', Bool.not_eq_false', bne_eq_false_iff_eq, Bool.not_eq_eq_eq_not, Bool.not_true, Bool.not_false] at h54
          refine H.region ?_
          refine Ops.quiet (Qt.move rfl) rfl ?_
          refine H.conv (fun w hw => client_mk d hw) ?_
          refine Ops.eff (Ef.call (fok fab_all rfl Tryd.func49 rfl) rfl (spec_next w0 b d fr hok (by rw [e5]; exact ho) (by omega))) rfl ?_
          rintro _ _ ⟨rfl, rfl⟩
          refine Ops.nil ?_
          refine H.blk_normal ?_
          refine (H.ends_n rfl (ResAll.nil) ?_)
          refine ⟨rfl, ?_⟩
          unfold Cl.t2
          rw [tl1]
          first | rw [if_pos h29]; rfl | rw [if_neg h29, if_pos h54] | (rw [if_neg h29, if_neg (by rw [h54]; simp)])
        · try simp only [decide_eq_true_eq, decide_eq_false_iff_not, beq_iff_eq, beq_eq_false_iff_ne, bne_iff_ne, ne_eq, Bool.not_eq_true', Bool.not_eq_false', bne_eq_false_iff_eq, Bool.not_eq_eq_eq_not, Bool.not_true, Bool.not_false] at h54
          refine H.region ?_
          refine Ops.quiet (Qt.move rfl) rfl ?_
          refine H.conv (fun w hw => client_mk d hw) ?_
          refine Ops.eff (Ef.call (fok fab_all rfl Tryd.func48 rfl) rfl (spec_quit w0 b d 0 fr (by rw [e5]; exact ho))) rfl ?_
          rintro _ _ ⟨rfl, rfl⟩
          refine Ops.nil ?_
          refine H.blk_normal ?_
          refine (H.ends_n rfl (ResAll.nil) ?_)
          refine ⟨rfl, ?_⟩
          unfold Cl.t2
          rw [tl1]
          first | rw [if_pos h29]; rfl | rw [if_neg h29, if_pos h54] | (rw [if_neg h29, if_neg (by rw [h54]; simp)])
  · have g6' := g6
    try simp only [decide_eq_true_eq, decide_eq_false_iff_not, beq_iff_eq, beq_eq_false_iff_ne, bne_iff_ne, ne_eq, Bool.not_eq_true', Bool.not_eq_false', bne_eq_false_iff_eq, Bool.not_eq_eq_eq_not, Bool.not_true, Bool.not_false] at g6'
    refine Ops.guard_no rfl rfl rfl rfl g6 ?_
    refine Ops.quiet (Qt.pick_f rfl rfl g6) rfl ?_
    refine Ops.nil ?_
    refine H.then_normal ?_
    refine H.cond_false rfl (by rfl) ?_
    refine H.skip ?_
    refine H.then_normal ?_
    refine H.seq ?_
    refine H.region ?_
    refine Ops.quiet (Qt.move rfl) rfl ?_
    refine Ops.quiet (Qt.nilCheck rfl) rfl ?_
    refine Ops.quiet (Qt.fieldAddr rfl (tk rfl) rfl) rfl ?_
    refine Ops.quiet (Qt.load rfl (tk rfl) rfl (by repeat (first | exact List.Mem.head _ | apply List.Mem.tail)) (by rfl)) rfl ?_
    refine Ops.quiet (Qt.add64 rfl rfl (by omega) (by omega)) rfl ?_
    refine Ops.quiet (Qt.nilCheck rfl) rfl ?_
    refine Ops.quiet (Qt.fieldAddr rfl (tk rfl) rfl) rfl ?_
    refine Ops.eff (Ef.store rfl rfl (tk rfl) rfl rfl (by repeat (first | exact ones_nil | refine ones_cons rfl ?_)) (by repeat (first | exact Upd.head | apply Upd.tail)) (by rfl)) rfl ?_
    rintro _ _ rfl
    refine Ops.nil ?_
    refine H.then_normal ?_
    refine H.block ?_
    refine H.seq ?_
    refine H.conv (cs' := client b d :: fr) (fun w hw => by rw [hd, Cl.t1, if_neg (by intro hx; exact hx.1 g6')]; exact client_mk { c with at_ := c.at_ + 1 } hw) ?_
    clear tl1 tl2 tl3 ol1 ol2 ol3 cl1 cl2 cl3
    refine H.open_client fun tA tn tc lp rp oA on oc cA cn cc ⟨tl1, tl2, tl3⟩ ⟨ol1, ol2, ol3⟩ ⟨cl1, cl2, cl3⟩ => ?_
    refine H.drawn_all 9 mixed (by kernel_rfl) ?_
    refine Hd.quiet 0 (by kernel_rfl) rfl rfl (by kernel_rfl) rfl (Qt.move rfl) ?_
    refine Hd.quiet 1 (by kernel_rfl) rfl rfl (by kernel_rfl) rfl (Qt.nilCheck rfl) ?_
    refine Hd.quiet 2 (by kernel_rfl) rfl rfl (by kernel_rfl) rfl (Qt.fieldAddr rfl (tk rfl) rfl) ?_
    refine Hd.quiet 3 (by kernel_rfl) rfl rfl (by kernel_rfl) rfl (Qt.load rfl (tk rfl) rfl (by repeat (first | exact List.Mem.head _ | apply List.Mem.tail)) (by rfl)) ?_
    refine Hd.quiet 4 (by kernel_rfl) rfl rfl (by kernel_rfl) rfl (Qt.move rfl) ?_
    refine Hd.quiet 5 (by kernel_rfl) rfl rfl (by kernel_rfl) rfl (Qt.nilCheck rfl) ?_
    refine Hd.quiet 6 (by kernel_rfl) rfl rfl (by kernel_rfl) rfl (Qt.fieldAddr rfl (tk rfl) rfl) ?_
    refine Hd.quiet 7 (by kernel_rfl) rfl rfl (by kernel_rfl) rfl (Qt.load rfl (tk rfl) rfl (by repeat (first | exact List.Mem.head _ | apply List.Mem.tail)) (by rfl)) ?_
    refine Hd.quiet 8 (by kernel_rfl) rfl rfl (by kernel_rfl) rfl (Qt.len_sl (ats := #[]) rfl (tk rfl)) ?_
    refine Hd.tail (by intro w hw; first | exact hw | exact Own.sub (by repeat (first | exact List.Sublist.refl _ | exact List.nil_sublist _ | apply List.Sublist.cons_cons | apply List.Sublist.cons)) hw) (by kernel_rfl) rfl ?_
    refine Ops.quiet (Qt.lss rfl rfl) rfl ?_
    refine Ops.quiet (Qt.assign rfl) rfl ?_
    refine Ops.nil ?_
    refine H.then_normal ?_
    refine H.cond rfl (fun h29 => ?_) (fun h29 => ?_)
    · try simp only [decide_eq_true_eq, decide_eq_false_iff_not, beq_iff_eq, beq_eq_false_iff_ne, bne_iff_ne, ne_eq, Bool.not_eq_true', Bool.not_eq_false', bne_eq_false_iff_eq, Bool.not_eq_eq_eq_not, Bool.not_true, Bool.not_false] at h29
      have hat : Sm (d.targets.getD d.at_.toNat []) := hd4 _ (by rw [List.getD_eq_getElem?_getD, List.getElem?_eq_getElem (show d.at_.toNat < d.targets.length by omega)]; simp)
      refine H.drawn_all 13 mixed (by kernel_rfl) ?_
      refine Hd.quiet 0 (by kernel_rfl) rfl rfl (by kernel_rfl) rfl (Qt.move rfl) ?_
      refine Hd.quiet 1 (by kernel_rfl) rfl rfl (by kernel_rfl) rfl (Qt.move rfl) ?_
      refine Hd.quiet 2 (by kernel_rfl) rfl rfl (by kernel_rfl) rfl (Qt.nilCheck rfl) ?_
      refine Hd.quiet 3 (by kernel_rfl) rfl rfl (by kernel_rfl) rfl (Qt.fieldAddr rfl (tk rfl) rfl) ?_
      refine Hd.quiet 4 (by kernel_rfl) rfl rfl (by kernel_rfl) rfl (Qt.load rfl (tk rfl) rfl (by repeat (first | exact List.Mem.head _ | apply List.Mem.tail)) (by rfl)) ?_
      refine Hd.quiet 5 (by kernel_rfl) rfl rfl (by kernel_rfl) rfl (Qt.move rfl) ?_
      refine Hd.quiet 6 (by kernel_rfl) rfl rfl (by kernel_rfl) rfl (Qt.nilCheck rfl) ?_
      refine Hd.quiet 7 (by kernel_rfl) rfl rfl (by kernel_rfl) rfl (Qt.fieldAddr rfl (tk rfl) rfl) ?_
      refine Hd.quiet 8 (by kernel_rfl) rfl rfl (by kernel_rfl) rfl (Qt.load rfl (tk rfl) rfl (by repeat (first | exact List.Mem.head _ | apply List.Mem.tail)) (by rfl)) ?_
      refine Hd.quiet 9 (by kernel_rfl) rfl rfl (by kernel_rfl) rfl (Qt.indexAddr rfl rfl (tk rfl) (tk rfl) rfl (by repeat (first | assumption | exact Reads.of_head | apply Reads.tail)) (by omega) (by omega)) ?_
      refine Hd.quiet 10 (by kernel_rfl) rfl rfl (by kernel_rfl) rfl (Qt.load_map ([] : List UInt8) rfl (tk rfl) rfl (by repeat (first | assumption | exact Reads.of_head | apply Reads.tail)) (by omega)) ?_
      refine Hd.quiet 11 (by kernel_rfl) rfl rfl (by kernel_rfl) rfl (Qt.cat rfl rfl (by (try simp only [List.length_append, List.length_cons, List.length_nil]); omega)) ?_
      refine Hd.quiet 12 (by kernel_rfl) rfl rfl (by kernel_rfl) rfl (Qt.cat rfl rfl (by (try simp only [List.length_append, List.length_cons, List.length_nil]); omega)) ?_
      refine Hd.tail (by intro w hw; first | exact hw | exact Own.sub (by repeat (first | exact List.Sublist.refl _ | exact List.nil_sublist _ | apply List.Sublist.cons_cons | apply List.Sublist.cons)) hw) (by kernel_rfl) rfl ?_
      refine H.conv (fun w hw => client_mk d hw) ?_
      refine Ops.eff (Ef.call (fok fab_all rfl Tryd.func59 rfl) rfl (spec_say w0 b d _ fr (by rw [e5]; exact ho) (by (try simp only [List.length_append, List.length_cons, List.length_nil]); omega))) rfl ?_
      rintro _ _ ⟨rfl, rfl⟩
      refine Ops.nil ?_
      refine H.blk_normal ?_
      refine (H.ends_n rfl (ResAll.nil) ?_)
      refine ⟨rfl, ?_⟩
      unfold Cl.t2
      rw [tl1]
      first | rw [if_pos h29]; rfl | rw [if_neg h29, if_pos h54] | (rw [if_neg h29, if_neg (by rw [h54]; simp)])
    · try simp only [decide_eq_true_eq, decide_eq_false_iff_not, beq_iff_eq, beq_eq_false_iff_ne, bne_iff_ne, ne_eq, Bool.not_eq_true', Bool.not_eq_false', bne_eq_false_iff_eq, Bool.not_eq_eq_eq_not, Bool.not_true, Bool.not_false] at h29
      refine H.seq ?_
      refine H.region ?_
      refine Ops.quiet (Qt.move rfl) rfl ?_
      refine Ops.quiet (Qt.nilCheck rfl) rfl ?_
      refine Ops.quiet (Qt.fieldAddr rfl (tk rfl) rfl) rfl ?_
      refine Ops.quiet (Qt.load rfl (tk rfl) rfl (by repeat (first | exact List.Mem.head _ | apply List.Mem.tail)) (by rfl)) rfl ?_
      refine Ops.eff (Ef.call (fok fab_all rfl Tryd.func60 rfl) rfl (spec_icontains (by repeat (first | assumption | exact Reads.of_head | apply Reads.tail)) 0)) rfl ?_
      rintro _ _ ⟨rfl, rfl⟩
      refine Ops.quiet (Qt.assign rfl) rfl ?_
      refine Ops.nil ?_
      refine H.then_normal ?_
      refine H.cond rfl (fun h54 => ?_) (fun h54 => ?_)
      · try simp only [decide_eq_true_eq, decide_eq_false_iff_not, beq_iff_eq, beq_eq_false_iff_ne, bne_iff_ne, ne_eq, Bool.not_eq_true', Bool.not_eq_false', bne_eq_false_iff_eq, Bool.not_eq_eq_eq_not, Bool.not_true, Bool.not_false] at h54
        refine H.region ?_
        refine Ops.quiet (Qt.move rfl) rfl ?_
        refine H.conv (fun w hw => client_mk d hw) ?_
        refine Ops.eff (Ef.call (fok fab_all rfl Tryd.func49 rfl) rfl (spec_next w0 b d fr hok (by rw [e5]; exact ho) (by omega))) rfl ?_
        rintro _ _ ⟨rfl, rfl⟩
        refine Ops.nil ?_
        refine H.blk_normal ?_
        refine (H.ends_n rfl (ResAll.nil) ?_)
        refine ⟨rfl, ?_⟩
        unfold Cl.t2
        rw [tl1]
        first | rw [if_pos h29]; rfl | rw [if_neg h29, if_pos h54] | (rw [if_neg h29, if_neg (by rw [h54]; simp)])
      · try simp only [decide_eq_true_eq, decide_eq_false_iff_not, beq_iff_eq, beq_eq_false_iff_ne, bne_iff_ne, ne_eq, Bool.not_eq_true', Bool.not_eq_false', bne_eq_false_iff_eq, Bool.not_eq_eq_eq_not, Bool.not_true, Bool.not_false] at h54
        refine H.region ?_
        refine Ops.quiet (Qt.move rfl) rfl ?_
        refine H.conv (fun w hw => client_mk d hw) ?_
        refine Ops.eff (Ef.call (fok fab_all rfl Tryd.func48 rfl) rfl (spec_quit w0 b d 0 fr (by rw [e5]; exact ho))) rfl ?_
        rintro _ _ ⟨rfl, rfl⟩
        refine Ops.nil ?_
        refine H.blk_normal ?_
        refine (H.ends_n rfl (ResAll.nil) ?_)
        refine ⟨rfl, ?_⟩
        unfold Cl.t2
        rw [tl1]
        first | rw [if_pos h29]; rfl | rw [if_neg h29, if_pos h54] | (rw [if_neg h29, if_neg (by rw [h54]; simp)])

def Cl.take (c : Cl) (code : Int) : Cl :=
  if c.state = 3 then c.target code
  else if code ≠ c.wanted then c.quit code
  else if c.state = 5 then c.quit 250
  else c.next
theorem spec_take (w0 : World) (b : Nat) (c : Cl) (code : Int) (fr : List SProp) (hc : ClOk c) (ho : c.out.length ≤ 1000000) (ha : c.state = 3 → c.at_ < c.targets.length) (ht : 0 < c.targets.length) :
    Spec Tryd.prog w0 29 [ptr b, num code] (client b c :: fr) (fun v cs' => v = unit ∧ cs' = client b (c.take code) :: fr) := by
  refine Spec.of_body Tryd.func29 rfl Tryd.ntmps29 rfl ?_
  refine H.open_client fun tA tn tc lp rp oA on oc cA cn cc ⟨tl1, tl2, tl3⟩ ⟨ol1, ol2, ol3⟩ ⟨cl1, cl2, cl3⟩ => ?_
  refine H.block ?_
  refine H.seq ?_
  refine H.region ?_
  refine Ops.quiet (Qt.move rfl) rfl ?_
  refine Ops.quiet (Qt.nilCheck rfl) rfl ?_
  refine Ops.quiet (Qt.fieldAddr rfl (tk rfl) rfl) rfl ?_
  refine Ops.quiet (Qt.load rfl (tk rfl) rfl (by repeat (first | exact List.Mem.head _ | apply List.Mem.tail)) (by rfl)) rfl ?_
  refine Ops.quiet (Qt.eql rfl rfl) rfl ?_
  refine Ops.quiet (Qt.assign rfl) rfl ?_
  refine Ops.nil ?_
  refine H.then_normal ?_
  refine H.cond rfl (fun h6 => ?_) (fun h6 => ?_)
  · try simp only [decide_eq_true_eq, decide_eq_false_iff_not, beq_iff_eq, beq_eq_false_iff_ne, bne_iff_ne, ne_eq, Bool.not_eq_true', Bool.not_eq_false', bne_eq_false_iff_eq, Bool.not_eq_eq_eq_not, Bool.not_true, Bool.not_false] at h6
    refine H.conv (fun w hw => client_mk c hw) ?_
    refine H.region ?_
    refine Ops.quiet (Qt.move rfl) rfl ?_
    refine Ops.quiet (Qt.move rfl) rfl ?_
    refine Ops.eff (Ef.call (fok fab_all rfl Tryd.func46 rfl) rfl (spec_target w0 b c code fr hc ho (ha h6))) rfl ?_
    rintro _ _ ⟨rfl, rfl⟩
    refine Ops.nil ?_
    refine H.blk_normal ?_
    refine (H.ends_n rfl (ResAll.nil) ?_)
    refine ⟨rfl, ?_⟩
    unfold Cl.take
    first | rw [if_pos h6] | rw [if_neg h6, if_pos h15] | rw [if_neg h6, if_neg (by simp [h15]), if_pos h23] | rw [if_neg h6, if_neg (by simp [h15]), if_neg h23]
  · try simp only [decide_eq_true_eq, decide_eq_false_iff_not, beq_iff_eq, beq_eq_false_iff_ne, bne_iff_ne, ne_eq, Bool.not_eq_true', Bool.not_eq_false', bne_eq_false_iff_eq, Bool.not_eq_eq_eq_not, Bool.not_true, Bool.not_false] at h6
    refine H.seq ?_
    refine H.conv (fun w hw => client_mk c hw) ?_
    refine H.region ?_
    refine Ops.quiet (Qt.move rfl) rfl ?_
    refine Ops.quiet (Qt.move rfl) rfl ?_
    refine Ops.eff (Ef.call (fok fab_all rfl Tryd.func47 rfl) rfl (spec_wanted w0 b c fr)) rfl ?_
    rintro _ _ ⟨rfl, rfl⟩
    refine Ops.quiet (Qt.neq rfl rfl) rfl ?_
    refine Ops.quiet (Qt.assign rfl) rfl ?_
    refine Ops.nil ?_
    refine H.then_normal ?_
    refine H.cond rfl (fun h15 => ?_) (fun h15 => ?_)
    · try simp only [decide_eq_true_eq, decide_eq_false_iff_not, beq_iff_eq, beq_eq_false_iff_ne, bne_iff_ne, ne_eq, Bool.not_eq_true', Bool.not_eq_false', bne_eq_false_iff_eq, Bool.not_eq_eq_eq_not, Bool.not_true, Bool.not_false] at h15
      refine H.region ?_
      refine Ops.quiet (Qt.move rfl) rfl ?_
      refine Ops.quiet (Qt.move rfl) rfl ?_
      refine Ops.eff (Ef.call (fok fab_all rfl Tryd.func48 rfl) rfl (spec_quit w0 b c code fr ho)) rfl ?_
      rintro _ _ ⟨rfl, rfl⟩
      refine Ops.nil ?_
      refine H.blk_normal ?_
      refine (H.ends_n rfl (ResAll.nil) ?_)
      refine ⟨rfl, ?_⟩
      unfold Cl.take
      first | rw [if_pos h6] | rw [if_neg h6, if_pos h15] | rw [if_neg h6, if_neg (by simp [h15]), if_pos h23] | rw [if_neg h6, if_neg (by simp [h15]), if_neg h23]
    · try simp only [decide_eq_true_eq, decide_eq_false_iff_not, beq_iff_eq, beq_eq_false_iff_ne, bne_iff_ne, ne_eq, Bool.not_eq_true', Bool.not_eq_false', bne_eq_false_iff_eq, Bool.not_eq_eq_eq_not, Bool.not_true, Bool.not_false] at h15
      refine H.seq ?_
      refine H.open_client fun tA tn tc lp rp oA on oc cA cn cc ⟨tl1, tl2, tl3⟩ ⟨ol1, ol2, ol3⟩ ⟨cl1, cl2, cl3⟩ => ?_
      refine H.region ?_
      refine Ops.quiet (Qt.move rfl) rfl ?_
      refine Ops.quiet (Qt.nilCheck rfl) rfl ?_
      refine Ops.quiet (Qt.fieldAddr rfl (tk rfl) rfl) rfl ?_
      refine Ops.quiet (Qt.load rfl (tk rfl) rfl (by repeat (first | exact List.Mem.head _ | apply List.Mem.tail)) (by rfl)) rfl ?_
      refine Ops.quiet (Qt.eql rfl rfl) rfl ?_
      refine Ops.quiet (Qt.assign rfl) rfl ?_
      refine Ops.nil ?_
      refine H.then_normal ?_
      refine H.cond rfl (fun h23 => ?_) (fun h23 => ?_)
      · try simp only [decide_eq_true_eq, decide_eq_false_iff_not, beq_iff_eq, beq_eq_false_iff_ne, bne_iff_ne, ne_eq, Bool.not_eq_true', Bool.not_eq_false', bne_eq_false_iff_eq, Bool.not_eq_eq_eq_not, Bool.not_true, Bool.not_false] at h23
        refine H.conv (fun w hw => client_mk c hw) ?_
        refine H.region ?_
        refine Ops.quiet (Qt.move rfl) rfl ?_
        refine Ops.eff (Ef.call (fok fab_all rfl Tryd.func48 rfl) rfl (spec_quit w0 b c 250 fr ho)) rfl ?_
        rintro _ _ ⟨rfl, rfl⟩
        refine Ops.nil ?_
        refine H.blk_normal ?_
        refine (H.ends_n rfl (ResAll.nil) ?_)
        refine ⟨rfl, ?_⟩
        unfold Cl.take
        first | rw [if_pos h6] | rw [if_neg h6, if_pos h15] | rw [if_neg h6, if_neg (by simp [h15]), if_pos h23] | rw [if_neg h6, if_neg (by simp [h15]), if_neg h23]
      · try simp only [decide_eq_true_eq, decide_eq_false_iff_not, beq_iff_eq, beq_eq_false_iff_ne, bne_iff_ne, ne_eq, Bool.not_eq_true', Bool.not_eq_false', bne_eq_false_iff_eq, Bool.not_eq_eq_eq_not, Bool.not_true, Bool.not_false] at h23
        refine H.conv (fun w hw => client_mk c hw) ?_
        refine H.region ?_
        refine Ops.quiet (Qt.move rfl) rfl ?_
        refine Ops.eff (Ef.call (fok fab_all rfl Tryd.func49 rfl) rfl (spec_next w0 b c fr hc ho ht)) rfl ?_
        rintro _ _ ⟨rfl, rfl⟩
        refine Ops.nil ?_
        refine H.blk_normal ?_
        refine (H.ends_n rfl (ResAll.nil) ?_)
        refine ⟨rfl, ?_⟩
        unfold Cl.take
        first | rw [if_pos h6] | rw [if_neg h6, if_pos h15] | rw [if_neg h6, if_neg (by simp [h15]), if_pos h23] | rw [if_neg h6, if_neg (by simp [h15]), if_neg h23]

def Cl.lost (c : Cl) : Cl := if c.over then c else { c with out := [] }.fin 421
theorem spec_lost (w0 : World) (b : Nat) (c : Cl) (fr : List SProp) :
    Spec Tryd.prog w0 12 [ptr b] (client b c :: fr) (fun v cs' => v = unit ∧ cs' = client b c.lost :: fr) := by
  refine Spec.of_body Tryd.func12 rfl Tryd.ntmps12 rfl ?_
  refine H.open_client fun tA tn tc lp rp oA on oc cA cn cc ⟨tl1, tl2, tl3⟩ ⟨ol1, ol2, ol3⟩ ⟨cl1, cl2, cl3⟩ => ?_
  refine H.seq ?_
  refine H.region ?_
  refine Ops.quiet (Qt.move rfl) rfl ?_
  refine Ops.quiet (Qt.ptr_ne_nil rfl (tk rfl)) rfl ?_
  refine Ops.quiet (Qt.move rfl) rfl ?_
  refine Ops.guard rfl rfl rfl rfl (fun g4 => ?_) (fun g4 => ?_)
  · have g4' := g4
    try simp only [decide_eq_true_eq, decide_eq_false_iff_not, beq_iff_eq, beq_eq_false_iff_ne, bne_iff_ne, ne_eq, Bool.not_eq_true', Bool.not_eq_false', bne_eq_false_iff_eq, Bool.not_eq_eq_eq_not, Bool.not_true, Bool.not_false] at g4'
    refine Ops.quiet (Qt.move rfl) rfl ?_
    refine Ops.guard_yes rfl rfl rfl rfl g4 ?_
    refine Ops.quiet (Qt.nilCheck rfl) rfl ?_
    refine Ops.guard_yes rfl rfl rfl rfl g4 ?_
    refine Ops.quiet (Qt.fieldAddr rfl (tk rfl) rfl) rfl ?_
    refine Ops.guard_yes rfl rfl rfl rfl g4 ?_
    refine Ops.quiet (Qt.load rfl (tk rfl) rfl (by repeat (first | exact List.Mem.head _ | apply List.Mem.tail)) (by rfl)) rfl ?_
    refine Ops.guard_yes rfl rfl rfl rfl g4 ?_
    refine Ops.quiet (Qt.not rfl) rfl ?_
    refine Ops.quiet (Qt.pick_t rfl rfl g4) rfl ?_
    refine Ops.nil ?_
    refine H.then_normal ?_
    refine H.cond rfl (fun h10 => ?_) (fun h10 => ?_)
    · try simp only [decide_eq_true_eq, decide_eq_false_iff_not, beq_iff_eq, beq_eq_false_iff_ne, bne_iff_ne, ne_eq, Bool.not_eq_true', Bool.not_eq_false', bne_eq_false_iff_eq, Bool.not_eq_eq_eq_not, Bool.not_true, Bool.not_false] at h10
      refine H.seq ?_
      refine H.region ?_
      refine Ops.quiet (Qt.move rfl) rfl ?_
      refine Ops.quiet (Qt.nilCheck rfl) rfl ?_
      refine Ops.quiet (Qt.fieldAddr rfl (tk rfl) rfl) rfl ?_
      refine Ops.eff (Ef.store rfl rfl (tk rfl) rfl rfl (by repeat (first | exact ones_nil | refine ones_cons rfl ?_)) (by repeat (first | exact Upd.head | apply Upd.tail)) (by rfl)) rfl ?_
      rintro _ _ rfl
      refine Ops.nil ?_
      refine H.then_normal ?_
      refine H.conv (fun w hw => client_mk { c with out := [] } (Own.upd (.tail (.tail .head)) hw fun r h => h.tail.zero_osl _ none)) ?_
      refine H.region ?_
      refine Ops.quiet (Qt.move rfl) rfl ?_
      refine Ops.eff (Ef.call (fok fab_all rfl Tryd.func24 rfl) rfl (spec_end w0 b { c with out := [] } 421 fr)) rfl ?_
      rintro _ _ ⟨rfl, rfl⟩
      refine Ops.nil ?_
      refine (H.ends_n rfl (ResAll.nil) ?_)
      refine ⟨rfl, ?_⟩
      unfold Cl.lost
      rw [h10]; rfl
    · try simp only [decide_eq_true_eq, decide_eq_false_iff_not, beq_iff_eq, beq_eq_false_iff_ne, bne_iff_ne, ne_eq, Bool.not_eq_true', Bool.not_eq_false', bne_eq_false_iff_eq, Bool.not_eq_eq_eq_not, Bool.not_true, Bool.not_false] at h10
      refine H.skip ?_
      refine H.conv (fun w hw => client_mk c hw) (H.ends_n rfl (ResAll.nil) ?_)
      refine ⟨rfl, ?_⟩
      unfold Cl.lost
      rw [h10]; rfl
  · have g4' := g4
    try simp only [decide_eq_true_eq, decide_eq_false_iff_not, beq_iff_eq, beq_eq_false_iff_ne, bne_iff_ne, ne_eq, Bool.not_eq_true', Bool.not_eq_false', bne_eq_false_iff_eq, Bool.not_eq_eq_eq_not, Bool.not_true, Bool.not_false] at g4'
    exact Bool.noConfusion g4

theorem spec_Next (w0 : World) (b : Nat) (c : Cl) (fr : List SProp) :
    Spec Tryd.prog w0 14 [ptr b] (client b c :: fr) (fun v cs' => v = .tuple #[str (c.out.getD 0 []), bol (decide (0 < c.out.length))] ∧ cs' = client b { c with out := c.out.drop 1 } :: fr) := by
  refine Spec.of_body Tryd.func14 rfl Tryd.ntmps14 rfl ?_
  refine H.open_client fun tA tn tc lp rp oA on oc cA cn cc ⟨tl1, tl2, tl3⟩ ⟨ol1, ol2, ol3⟩ ⟨cl1, cl2, cl3⟩ => ?_
  refine H.seq ?_
  refine H.region ?_
  refine Ops.quiet (Qt.assign rfl) rfl ?_
  refine Ops.quiet (Qt.assign rfl) rfl ?_
  refine Ops.nil ?_
  refine H.then_normal ?_
  refine H.seq ?_
  refine H.seq ?_
  refine H.region ?_
  refine Ops.quiet (Qt.move rfl) rfl ?_
  refine Ops.quiet (Qt.ptr_eq_nil rfl (tk rfl)) rfl ?_
  refine Ops.quiet (Qt.move rfl) rfl ?_
  refine Ops.guard rfl rfl rfl rfl (fun g7 => ?_) (fun g7 => ?_)
  · have g7' := g7
    try simp only [decide_eq_true_eq, decide_eq_false_iff_not, beq_iff_eq, beq_eq_false_iff_ne, bne_iff_ne, ne_eq, Bool.not_eq_true', Bool.not_eq_false', bne_eq_false_iff_eq, Bool.not_eq_eq_eq_not, Bool.not_true, Bool.not_false] at g7'
    refine Ops.quiet (Qt.move rfl) rfl ?_
    refine Ops.guard_yes rfl rfl rfl rfl g7 ?_
    refine Ops.quiet (Qt.nilCheck rfl) rfl ?_
    refine Ops.guard_yes rfl rfl rfl rfl g7 ?_
    refine Ops.quiet (Qt.fieldAddr rfl (tk rfl) rfl) rfl ?_
    refine Ops.guard_yes rfl rfl rfl rfl g7 ?_
    refine Ops.quiet (Qt.load rfl (tk rfl) rfl (by repeat (first | exact List.Mem.head _ | apply List.Mem.tail)) (by rfl)) rfl ?_
    refine Ops.guard_yes rfl rfl rfl rfl g7 ?_
    refine Ops.quiet (Qt.len_sl (ats := #[]) rfl (tk rfl)) rfl ?_
    refine Ops.guard_yes rfl rfl rfl rfl g7 ?_
    refine Ops.quiet (Qt.eql rfl rfl) rfl ?_
    refine Ops.quiet (Qt.pick_f rfl rfl g7) rfl ?_
    refine Ops.nil ?_
    refine H.then_normal ?_
    refine H.cond rfl (fun h14 => ?_) (fun h14 => ?_)
    · try simp only [decide_eq_true_eq, decide_eq_false_iff_not, beq_iff_eq, beq_eq_false_iff_ne, bne_iff_ne, ne_eq, Bool.not_eq_true', Bool.not_eq_false', bne_eq_false_iff_eq, Bool.not_eq_eq_eq_not, Bool.not_true, Bool.not_false] at h14
      refine H.seq ?_
      refine H.region ?_
      refine Ops.quiet (Qt.assign rfl) rfl ?_
      refine Ops.quiet (Qt.assign rfl) rfl ?_
      refine Ops.nil ?_
      refine H.then_normal ?_
      refine H.ret ?_
      refine H.then_ret ?_
      have he : c.out = [] := List.eq_nil_of_length_eq_zero (by omega)
      refine H.conv (fun w hw => client_mk { c with out := c.out.drop 1 } (by rw [he] at hw ⊢; exact hw)) (H.ends rfl (.cons (.tmp rfl) (.cons (.tmp rfl) .nil)) ?_)
      exact ⟨by simp [he, retV], rfl⟩
    · try simp only [decide_eq_true_eq, decide_eq_false_iff_not, beq_iff_eq, beq_eq_false_iff_ne, bne_iff_ne, ne_eq, Bool.not_eq_true', Bool.not_eq_false', bne_eq_false_iff_eq, Bool.not_eq_eq_eq_not, Bool.not_true, Bool.not_false] at h14
      refine H.skip ?_
      refine H.then_normal ?_
      refine H.seq ?_
      refine H.region ?_
      refine Ops.quiet (Qt.move rfl) rfl ?_
      refine Ops.quiet (Qt.nilCheck rfl) rfl ?_
      refine Ops.quiet (Qt.fieldAddr rfl (tk rfl) rfl) rfl ?_
      refine Ops.quiet (Qt.load rfl (tk rfl) rfl (by repeat (first | exact List.Mem.head _ | apply List.Mem.tail)) (by rfl)) rfl ?_
      refine Ops.quiet (Qt.indexAddr rfl rfl (tk rfl) (tk rfl) rfl (by repeat (first | assumption | exact Reads.of_head | apply Reads.tail)) (by omega) (by omega)) rfl ?_
      refine Ops.quiet (Qt.load_map ([] : List UInt8) rfl (tk rfl) rfl (by repeat (first | assumption | exact Reads.of_head | apply Reads.tail)) (by omega)) rfl ?_
      refine Ops.quiet (Qt.assign rfl) rfl ?_
      refine Ops.nil ?_
      refine H.then_normal ?_
      refine H.seq ?_
      refine H.region ?_
      refine Ops.quiet (Qt.move rfl) rfl ?_
      refine Ops.quiet (Qt.move rfl) rfl ?_
      refine Ops.quiet (Qt.nilCheck rfl) rfl ?_
      refine Ops.quiet (Qt.fieldAddr rfl (tk rfl) rfl) rfl ?_
      refine Ops.quiet (Qt.load rfl (tk rfl) rfl (by repeat (first | exact List.Mem.head _ | apply List.Mem.tail)) (by rfl)) rfl ?_
      refine Ops.quiet (Qt.slice rfl (tk rfl) (tk rfl) rfl rfl rfl (by omega) (by omega) (by omega) (by omega)) rfl ?_
      refine Ops.quiet (Qt.nilCheck rfl) rfl ?_
      refine Ops.quiet (Qt.fieldAddr rfl (tk rfl) rfl) rfl ?_
      refine Ops.eff (Ef.store rfl rfl (tk rfl) rfl rfl (by repeat (first | exact ones_nil | refine ones_cons rfl ?_)) (by repeat (first | exact Upd.head | apply Upd.tail)) (by rfl)) rfl ?_
      rintro _ _ rfl
      refine Ops.nil ?_
      refine H.then_normal ?_
      refine H.seq ?_
      refine H.region ?_
      refine Ops.quiet (Qt.move rfl) rfl ?_
      refine Ops.quiet (Qt.assign rfl) rfl ?_
      refine Ops.quiet (Qt.assign rfl) rfl ?_
      refine Ops.nil ?_
      refine H.then_normal ?_
      refine H.ret ?_
      have e1 : (((c.out.map str).drop 1).take (on - 1)) = (c.out.drop 1).map str := by
        rw [List.map_drop, List.take_of_length_le]
        simp; omega
      refine H.conv (fun w hw => client_mk { c with out := c.out.drop 1 } (by
        have := Own.upd (.tail (.tail .head)) hw (fun r h => Own.cut (lo := 1) (hi := on) (by omega) (Nat.le_refl _) h)
        rw [e1] at this
        exact this)) (H.ends rfl (.cons (.tmp rfl) (.cons (.tmp rfl) .nil)) ?_)
      have : 0 < c.out.length := by omega
      exact ⟨by simp [retV, this], rfl⟩
  · have g7' := g7
    try simp only [decide_eq_true_eq, decide_eq_false_iff_not, beq_iff_eq, beq_eq_false_iff_ne, bne_iff_ne, ne_eq, Bool.not_eq_true', Bool.not_eq_false', bne_eq_false_iff_eq, Bool.not_eq_eq_eq_not, Bool.not_true, Bool.not_false] at g7'
    exact Bool.noConfusion g7
theorem spec_Over (w0 : World) (b : Nat) (c : Cl) (fr : List SProp) :
    Spec Tryd.prog w0 15 [ptr b] (client b c :: fr) (fun v cs' => v = bol c.over ∧ cs' = client b c :: fr) := by
  refine Spec.of_body Tryd.func15 rfl Tryd.ntmps15 rfl ?_
  refine H.open_client fun tA tn tc lp rp oA on oc cA cn cc ⟨tl1, tl2, tl3⟩ ⟨ol1, ol2, ol3⟩ ⟨cl1, cl2, cl3⟩ => ?_
  refine H.seq ?_
  refine H.region ?_
  refine Ops.quiet (Qt.assign rfl) rfl ?_
  refine Ops.nil ?_
  refine H.then_normal ?_
  refine H.seq ?_
  refine H.region ?_
  refine Ops.quiet (Qt.move rfl) rfl ?_
  refine Ops.quiet (Qt.ptr_eq_nil rfl (tk rfl)) rfl ?_
  refine Ops.quiet (Qt.move rfl) rfl ?_
  refine Ops.guard rfl rfl rfl rfl (fun g5 => ?_) (fun g5 => ?_)
  · have g5' := g5
    try simp only [decide_eq_true_eq, decide_eq_false_iff_not, beq_iff_eq, beq_eq_false_iff_ne, bne_iff_ne, ne_eq, Bool.not_eq_true', Bool.not_eq_false', bne_eq_false_iff_eq, Bool.not_eq_eq_eq_not, Bool.not_true, Bool.not_false] at g5'
    refine Ops.quiet (Qt.move rfl) rfl ?_
    refine Ops.guard_yes rfl rfl rfl rfl g5 ?_
    refine Ops.quiet (Qt.nilCheck rfl) rfl ?_
    refine Ops.guard_yes rfl rfl rfl rfl g5 ?_
    refine Ops.quiet (Qt.fieldAddr rfl (tk rfl) rfl) rfl ?_
    refine Ops.guard_yes rfl rfl rfl rfl g5 ?_
    refine Ops.quiet (Qt.load rfl (tk rfl) rfl (by repeat (first | exact List.Mem.head _ | apply List.Mem.tail)) (by rfl)) rfl ?_
    refine Ops.quiet (Qt.pick_f rfl rfl g5) rfl ?_
    refine Ops.quiet (Qt.assign rfl) rfl ?_
    refine Ops.nil ?_
    refine H.then_normal ?_
    refine H.ret ?_
    refine H.conv (fun w hw => client_mk c hw) (H.ends rfl (.cons (.tmp rfl) .nil) ?_)
    exact ⟨rfl, rfl⟩
  · have g5' := g5
    try simp only [decide_eq_true_eq, decide_eq_false_iff_not, beq_iff_eq, beq_eq_false_iff_ne, bne_iff_ne, ne_eq, Bool.not_eq_true', Bool.not_eq_false', bne_eq_false_iff_eq, Bool.not_eq_eq_eq_not, Bool.not_true, Bool.not_false] at g5'
    exact Bool.noConfusion g5
theorem spec_Codes (w0 : World) (b : Nat) (c : Cl) (fr : List SProp) (hn : c.codes.length ≤ 1000000) :
    Spec Tryd.prog w0 16 [ptr b] (client b c :: fr) (fun v cs' => ∃ A, v = .slice A c.codes.length c.codes.length ∧ ∃ k, cs' = client b c :: osl 3 A c.codes.length k (c.codes.map num) :: fr) := by
  refine Spec.of_body Tryd.func16 rfl Tryd.ntmps16 rfl ?_
  refine H.open_client fun tA tn tc lp rp oA on oc cA cn cc ⟨tl1, tl2, tl3⟩ ⟨ol1, ol2, ol3⟩ ⟨cl1, cl2, cl3⟩ => ?_
  refine H.seq ?_
  refine H.region ?_
  refine Ops.quiet (Qt.assign rfl) rfl ?_
  refine Ops.nil ?_
  refine H.then_normal ?_
  refine H.seq ?_
  refine H.seq ?_
  refine H.region ?_
  refine Ops.quiet (Qt.move rfl) rfl ?_
  refine Ops.quiet (Qt.ptr_eq_nil rfl (tk rfl)) rfl ?_
  refine Ops.nil ?_
  refine H.then_normal ?_
  refine H.cond_false rfl (by exact rfl) ?_
  refine H.skip ?_
  refine H.then_normal ?_
  refine H.seq ?_
  refine H.region ?_
  refine Ops.quiet (Qt.move rfl) rfl ?_
  refine Ops.quiet (Qt.nilCheck rfl) rfl ?_
  refine Ops.quiet (Qt.fieldAddr rfl (tk rfl) rfl) rfl ?_
  refine Ops.quiet (Qt.load rfl (tk rfl) rfl (by repeat (first | exact List.Mem.head _ | apply List.Mem.tail)) (by rfl)) rfl ?_
  refine Ops.eff (Ef.call (fok fab_all rfl Tryd.func34 rfl) rfl (spec_iclone (by repeat (first | assumption | exact Reads.of_head | apply Reads.tail)) (by omega))) rfl ?_
  rintro _ _ ⟨A9, c9, rfl, rfl⟩
  refine Ops.eff (Ef.call (fok fab_all rfl Tryd.func33 rfl) rfl (spec_iclip (by repeat (first | assumption | exact Reads.of_head | apply Reads.tail)))) rfl ?_
  rintro _ _ ⟨rfl, rfl⟩
  refine Ops.quiet (Qt.assign rfl) rfl ?_
  refine Ops.nil ?_
  refine H.then_normal ?_
  refine H.ret ?_
  refine H.conv (fun w hw => client_mk c (hw.perm (List.perm_middle (l₁ := [_, _, _, _, _, _])).symm)) (H.ends rfl (.cons (.tmp rfl) .nil) ?_)
  obtain ⟨cl1, cl2⟩ : c.codes.length = cn ∧ cn ≤ cc := ⟨by omega, by omega⟩
  subst cl1
  refine ⟨A9, ?_, c9, rfl⟩
  simp [cutA_zero, retV]
end Go.Proofs.YtimldpbddkhedaaDoor
