/- A reader, a variable that is built, a list that grows in it; each. -/
import Derived.Test.YthifjndenhjobaaXD1a
import Derived.Test.YthifjndenhjobaaXT2
namespace Go.Proofs.Ythifjndenhjobaa.Rid
set_option linter.unusedSimpArgs false
set_option linter.unusedVariables false
set_option maxRecDepth 20000
set_option maxHeartbeats 4000000
open Go.RowKit

def c71l0 : AC :=
 .seq (.seq (.reg [kn 7 (.mv (.t 4)), kn 8 (.bin .gtr (.t 7) (kc 0)), kn 9 (.mv (.t 8)), ky 10 9 (.mv (.t 0)), ky 11 9 (.call 101 [(.t 10)]), ky 12 9 (.un .not (.t 11)), kn 13 (.pick (.t 9) (.t 12) (.c (.d (.v (.bool false)))))])
 (.cond (.t 13) (.skip) (.exit 0)))
 (.seq (.block 1 (.reg [kn 16 (.mv (.t 1)), kn 17 (.callv (.t 16) [])]))
 (.reg [kn 14 (.mv (.t 4)), kn 15 (.bin .sub (.t 14) (kc 1)), kn 4 (.mv (.t 15))]))

def c71 : AC :=
 .seq (.reg [kn 5 (.mv (.t 0)), kn 6 (.call 77 [(.t 5)]), kn 4 (.mv (.t 6))])
 (.block 0 (.loop c71l0))
def r71 : List RC := []

theorem cc71 : Try.f71.body.bind (comp Try.prog (hhD 71)) = some c71 := by kernel_rfl
theorem rr71 : resC Try.prog Try.f71 = some r71 := by kernel_rfl
def HP (B : List ABlk) (s : ByteArray) (rb tb b : Nat) (r : Rd) (cs : List AV) (k : ABlk) (own : List ABlk) : List ABlk := (((B.set rb (rd s r.a r.bad)).set tb (.cells cs)).set b k) ++ own
section
variable {B : List ABlk} {s : ByteArray} {rb tb b : Nat} {r : Rd} {cs : List AV} {k : ABlk} {own l : List ABlk}
theorem hp_pl : ((((B.set rb (rd s r.a r.bad)).set tb (.cells cs)).set b k)).length = B.length := by simp
@[go_sem] theorem hp_app : HP B s rb tb b r cs k own ++ l = HP B s rb tb b r cs k (own ++ l) := by rw [HP, HP, List.append_assoc]
@[go_sem] theorem hp_len0 : (HP B s rb tb b r cs k []).length = B.length := by simp [HP]
@[go_sem] theorem hp_len1 {x : ABlk} : (HP B s rb tb b r cs k [x]).length = B.length + 1 := by simp [HP]
@[go_sem] theorem hp_len2 {x y : ABlk} : (HP B s rb tb b r cs k [x, y]).length = B.length + 2 := by simp [HP]
@[go_sem] theorem hp_r (h1 : rb < B.length) (h2 : rb ≠ tb) (h3 : rb ≠ b) : (HP B s rb tb b r cs k own)[rb]? = some (rd s r.a r.bad) := by
 rw [HP, List.getElem?_append_left (by rw [hp_pl]; exact h1), getset_ne (Ne.symm h3), getset_ne (Ne.symm h2), List.getElem?_set_self h1]
@[go_sem] theorem hp_t (h1 : tb < B.length) (h3 : tb ≠ b) : (HP B s rb tb b r cs k own)[tb]? = some (.cells cs) := by
 rw [HP, List.getElem?_append_left (by rw [hp_pl]; exact h1), getset_ne (Ne.symm h3), List.getElem?_set_self (by rw [List.length_set]; exact h1)]
@[go_sem] theorem hp_b (h1 : b < B.length) : (HP B s rb tb b r cs k own)[b]? = some k := by
 rw [HP, List.getElem?_append_left (by rw [hp_pl]; exact h1), List.getElem?_set_self (by rw [List.length_set, List.length_set]; exact h1)]
@[go_sem] theorem hp_v {v : Nat} (h1 : v < B.length) (h2 : v ≠ rb) (h3 : v ≠ tb) (h4 : v ≠ b) : (HP B s rb tb b r cs k own)[v]? = B[v]? := by
 rw [HP, List.getElem?_append_left (by rw [hp_pl]; exact h1), getset_ne (Ne.symm h4), getset_ne (Ne.symm h3), getset_ne (Ne.symm h2)]
@[go_sem] theorem hp_o0 {x : ABlk} : (HP B s rb tb b r cs k (x :: l))[B.length]? = some x := by
 rw [HP, List.getElem?_append_right (by rw [hp_pl]; exact Nat.le_refl _), hp_pl, Nat.sub_self]; rfl
@[go_sem] theorem hp_s0 {x y : ABlk} : (HP B s rb tb b r cs k (x :: l)).set B.length y = HP B s rb tb b r cs k (y :: l) := by
 rw [HP, HP, List.set_append_right _ _ (by rw [hp_pl]; exact Nat.le_refl _), hp_pl, Nat.sub_self]; rfl
@[go_sem] theorem hp_sr {q : Rd} (h1 : rb < B.length) (h2 : rb ≠ tb) (h3 : rb ≠ b) : (HP B s rb tb b r cs k own).set rb (rd s q.a q.bad) = HP B s rb tb b q cs k own := by
 rw [HP, HP, List.set_append_left _ _ (by rw [hp_pl]; exact h1), List.set_comm _ _ (Ne.symm h3), List.set_comm _ _ (Ne.symm h2), List.set_set]
@[go_sem] theorem hp_st {c : List AV} (h1 : tb < B.length) (h3 : tb ≠ b) : (HP B s rb tb b r cs k own).set tb (.cells c) = HP B s rb tb b r c k own := by
 rw [HP, HP, List.set_append_left _ _ (by rw [hp_pl]; exact h1), List.set_comm _ _ (Ne.symm h3), List.set_set]
@[go_sem] theorem hp_sb {j : ABlk} (h1 : b < B.length) : (HP B s rb tb b r cs k own).set b j = HP B s rb tb b r cs j own := by
 rw [HP, HP, List.set_append_left _ _ (by rw [hp_pl]; exact h1), List.set_set]
theorem hp_lo {c : Nat} (h : c < B.length) (h2 : c ≠ rb) (h3 : c ≠ tb) (h4 : c ≠ b) : (HP B s rb tb b r cs k own)[c]? = B[c]? := hp_v h h2 h3 h4
theorem hp_ge : B.length ≤ (HP B s rb tb b r cs k own).length := by rw [HP, List.length_append, hp_pl]; omega
theorem hp_self (h1 : B[rb]? = some (rd s r.a r.bad)) (h2 : B[tb]? = some (.cells cs)) (h3 : B[b]? = some k ∨ B.length ≤ b) : HP B s rb tb b r cs k [] = B := by
 rw [HP, List.append_nil, set_self h1, set_self h2]
 rcases h3 with h | h
 ·exact set_self h
 ·exact List.set_eq_of_length_le h
end
structure GS {α : Type} (s : ByteArray) (rb vb tb : Nat) (cs : AV → List AV) (f : α → List Dat) (ety sz : Nat) (H : List ABlk) (r : Rd) (x : AV) (l : List α) : Prop where
 er : H[rb]? = some (rd s r.a r.bad)
 ev : H[vb]? = some (.cells [.ptr rb 0])
 et : H[tb]? = some (.cells (cs x))
 g : (x = .esl ∧ l = []) ∨ ∃ b, x = .gsl b sz (l.map f) ∧ H[b]? = some (.row ety sz l.length) ∧ b ≠ rb ∧ b ≠ vb ∧ b ≠ tb
 d1 : rb ≠ vb
 d2 : rb ≠ tb
 d3 : vb ≠ tb
 le : r.a ≤ s.size
 m : r.bad = false → l.length ≤ r.a
def GF (rb tb : Nat) (x : AV) : List Nat := rb :: tb :: rowB x
section
variable {α : Type} {s : ByteArray} {rb vb tb : Nat} {cs : AV → List AV} {f : α → List Dat} {ety sz : Nat} {H : List ABlk} {r : Rd} {x : AV} {l : List α}
theorem GS.lt (h : GS s rb vb tb cs f ety sz H r x l) : rb < H.length ∧ vb < H.length ∧ tb < H.length := ⟨(List.getElem?_eq_some_iff.1 h.er).1, (List.getElem?_eq_some_iff.1 h.ev).1, (List.getElem?_eq_some_iff.1 h.et).1⟩
theorem GS.setR (h : GS s rb vb tb cs f ety sz H r x l) {q : Rd} (h1 : q.a ≤ s.size) (h2 : q.bad = false → l.length ≤ q.a) : GS s rb vb tb cs f ety sz (H.set rb (rd s q.a q.bad)) q x l ∧ Chg H (GF rb tb x) (H.set rb (rd s q.a q.bad)) (GF rb tb x) := by
 refine ⟨⟨List.getElem?_set_self h.lt.1, by rw [getset_ne h.d1, h.ev], by rw [getset_ne h.d2, h.et], ?_, h.d1, h.d2, h.d3, h1, h2⟩, by simp, fun b _ hb => getset_ne (fun e => hb (by rw [← e]; simp [GF])), fun b hb => .inl hb⟩
 rcases h.g with hg | ⟨b, e1, e2, e3, e4, e5⟩
 ·exact .inl hg
 ·exact .inr ⟨b, e1, by rw [getset_ne (Ne.symm e3), e2], e3, e4, e5⟩
theorem GS.first {b : Nat} {k : ABlk} (h : GS s rb vb tb cs f ety sz H r .esl l) (hb : H.length ≤ b) {q : Rd} (o : List ABlk) {y : α} (h1 : q.a ≤ s.size) (h2 : q.bad = false → r.bad = false ∧ r.a < q.a) (e : l = []) : GS s rb vb tb cs f ety sz (HP H s rb tb b q (cs (.gsl (H.length + o.length) sz [f y])) k (o ++ [.row ety sz 1])) q (.gsl (H.length + o.length) sz [f y]) (l ++ [y]) ∧
 Chg H (GF rb tb .esl) (HP H s rb tb b q (cs (.gsl (H.length + o.length) sz [f y])) k (o ++ [.row ety sz 1])) (GF rb tb (.gsl (H.length + o.length) sz [f y])) := by
 obtain ⟨l1, l2, l3⟩ := h.lt
 have d2 := h.d2; have d1 := h.d1; have d3 := h.d3
 refine ⟨⟨hp_r l1 d2 (by omega), by rw [hp_v l2 (Ne.symm d1) d3 (by omega), h.ev], hp_t l3 (by omega), .inr ⟨_, by rw [e]; rfl, ?_, by omega, by omega, by omega⟩, d1, d2, d3, h1, fun hq => ?_⟩, hp_ge, fun c hc hF => ?_, fun c hc => ?_⟩
 ·rw [HP, List.getElem?_append_right (by rw [hp_pl]; omega), hp_pl, Nat.add_sub_cancel_left, List.getElem?_append_right (Nat.le_refl _), Nat.sub_self, e]; rfl
 ·obtain ⟨h3, h4⟩ := h2 hq
  have := h.m h3
  rw [List.length_append, List.length_singleton]; omega
 ·simp only [GF, rowB, List.mem_cons, List.not_mem_nil, or_false, not_or] at hF
  exact hp_lo hc hF.1 hF.2 (by omega)
 ·simp only [GF, rowB, List.mem_cons, List.not_mem_nil, or_false] at hc ⊢
  rcases hc with hc | hc | hc
  ·exact .inl (.inl hc)
  ·exact .inl (.inr hc)
  ·exact .inr (by omega)
theorem GS.next {b : Nat} (h : GS s rb vb tb cs f ety sz H r (.gsl b sz (l.map f)) l) (hb : H[b]? = some (.row ety sz l.length)) (e1 : b ≠ rb) (e2 : b ≠ vb) (e3 : b ≠ tb) {q : Rd} (o : List ABlk) {y : α} (h1 : q.a ≤ s.size) (h2 : q.bad = false → r.bad = false ∧ r.a < q.a) : GS s rb vb tb cs f ety sz (HP H s rb tb b q (cs (.gsl b sz ((l ++ [y]).map f))) (.row ety sz (l.length + 1)) o) q (.gsl b sz ((l ++ [y]).map f)) (l ++ [y]) ∧
 Chg H (GF rb tb (.gsl b sz (l.map f))) (HP H s rb tb b q (cs (.gsl b sz ((l ++ [y]).map f))) (.row ety sz (l.length + 1)) o) (GF rb tb (.gsl b sz ((l ++ [y]).map f))) := by
 obtain ⟨l1, l2, l3⟩ := h.lt
 have l4 := (List.getElem?_eq_some_iff.1 hb).1
 have d2 := h.d2; have d1 := h.d1; have d3 := h.d3
 refine ⟨⟨hp_r l1 d2 (Ne.symm e1), by rw [hp_v l2 (Ne.symm d1) d3 (Ne.symm e2), h.ev], hp_t l3 (Ne.symm e3), .inr ⟨_, rfl, by rw [hp_b l4, List.length_append]; rfl, e1, e2, e3⟩, d1, d2, d3, h1, fun hq => ?_⟩, hp_ge, fun c hc hF => ?_, fun c hc => .inl hc⟩
 ·obtain ⟨h3, h4⟩ := h2 hq
  have := h.m h3
  rw [List.length_append, List.length_singleton]; omega
 ·simp only [GF, rowB, List.mem_cons, List.not_mem_nil, or_false, not_or] at hF
  exact hp_lo hc hF.1 hF.2.1 hF.2.2
end
structure EG (α : Type) where
 z : Int
 H : List ABlk
 r : Rd
 x : AV
 l : List α
def GStep {α : Type} (s : ByteArray) (rb vb tb : Nat) (cs : AV → List AV) (f : α → List Dat) (ety sz : Nat) (fn : FuncId) (caps : List AV) (stp : Way α) : Prop :=
 ∀ (H : List ABlk) (r : Rd) (x : AV) (l : List α), GS s rb vb tb cs f ety sz H r x l → r.bad = false → ACalls Try.prog fn caps H fun v H' => v = .tup [] ∧ ∃ x', GS s rb vb tb cs f ety sz H' (stp r).2 x' (l ++ [(stp r).1]) ∧ Chg H (GF rb tb x) H' (GF rb tb x')
theorem each_c {α : Type} {s : ByteArray} (hs : s.size ≤ 300000) {rb vb tb : Nat} {cs : AV → List AV} {f : α → List Dat} {ety sz : Nat} {fn : FuncId} {caps : List AV} {stp : Way α} (hc : callOk Try.prog fn = true) (hstep : GStep s rb vb tb cs f ety sz fn caps stp)
 {H : List ABlk} {r : Rd} {x : AV} {l : List α} (h : GS s rb vb tb cs f ety sz H r x l) : ACalls Try.prog 71 [.ptr rb 0, .fn fn caps] H fun v H' => v = .tup [] ∧ ∃ x', GS s rb vb tb cs f ety sz H' (listF s stp r).2 x' (l ++ (listF s stp r).1) ∧ Chg H (GF rb tb x) H' (GF rb tb x') := by
 refine ACalls.into Try.func71 cc71 rr71 fun hcl => ?_
 have hn := (num_r s).ok r h.le
 obtain ⟨g0, c0⟩ := h.setR ((num_r s).le r h.le) (fun hb => Nat.le_trans (h.m ((num_r s).st r hb)) (Nat.le_of_lt ((num_r s).go r hb)))
 simp (maxSteps := 2000000) (disch := omega) only [Try.ntmps71, c71, r71, go_sem, seval, reduceCtorEq]
 refine Cont.mk (num_c h.er hs h.le) ?_
 obtain ⟨n, q, hnq⟩ : ∃ n q, numF s r = (n, q) := ⟨_, _, rfl⟩
 rw [listF, bnd]
 rw [hnq] at hn g0 c0 ⊢
 simp only at hn g0 c0 ⊢
 simp (maxSteps := 2000000) (disch := omega) only [go_sem, seval, reduceCtorEq]
 obtain ⟨S, hS⟩ : ∃ S : EG α → List AV, ∀ g, S g = [.ptr rb 0, .fn fn caps, .any, .any, iv g.z] ++ List.replicate 13 .any := ⟨_, fun _ => rfl⟩
 refine W.loopG (γ := EG α) (fun g => g.z.toNat) S (fun g => g.H) (fun g => fit32 g.z ∧ GS s rb vb tb cs f ety sz g.H g.r g.x g.l ∧ Chg H (GF rb tb x) g.H (GF rb tb g.x) ∧ g.l ++ (loopL stp g.z.toNat g.r).1 = l ++ (loopL stp n.toNat q).1 ∧ (loopL stp g.z.toNat g.r).2 = (loopL stp n.toNat q).2) ⟨n, _, q, x, l⟩ (Wk.slots (by rw [hS]; exact WkL.tail 5 _ rfl (by simp only [List.take_succ_cons, List.take_zero]; repeat' first | exact WkL.nil | refine WkL.cons (Wk1.rfl _) ?_ | refine WkL.cons Wk1.esl ?_ | refine WkL.cons (Wk1.gsl _ _ _) ?_ | refine WkL.cons (Wk1.any _) ?_))) ⟨hn, g0, c0, rfl, rfl⟩ (fun g hg => ?_)
 obtain ⟨z, G, p, y, m⟩ := g
 obtain ⟨k1, k2, k3, k4, k5⟩ := hg
 simp only at k1 k2 k3 k4 k5
 have z1 := k1.1; have z2 := k1.2
 by_cases hz : 0 < z
 ·have hz2 : z.toNat = (z - 1).toNat + 1 := by omega
  cases hb : p.bad with
  | true =>
   have kr := k2.er
   rw [hb] at kr
   rw [loopL_bad _ _ hb] at k4 k5
   simp (maxSteps := 2000000) (disch := omega) only [hS, c71l0, decide_eq_true (show z > 0 from hz), go_sem, seval, reduceCtorEq]
   refine Cont.mk (bad_c (r := ⟨p.a, true⟩) kr) ?_
   simp (maxSteps := 2000000) (disch := omega) only [go_sem, seval, reduceCtorEq]
   rw [List.append_nil] at k4
   exact Ret.keep ⟨rfl, y, by rw [← k4, ← k5]; exact k2, k3⟩
  | false =>
   have kr := k2.er
   rw [hb] at kr
   simp (maxSteps := 2000000) (disch := omega) only [hS, c71l0, decide_eq_true (show z > 0 from hz), go_sem, seval, reduceCtorEq]
   refine Cont.mk (bad_c (r := ⟨p.a, false⟩) kr) ?_
   simp (maxSteps := 2000000) (disch := omega) only [go_sem, seval, reduceCtorEq]
   refine ⟨hc, ?_⟩
   refine Cont.rel (hstep G p y m k2 hb) ?_
   rintro v G' ⟨rfl, y', j1, j2⟩
   simp (maxSteps := 2000000) (disch := omega) only [go_sem, seval, reduceCtorEq]
   have hw : IntKind.i64.wrap (z - 1) = z - 1 := w_i64 (by omega) (by omega)
   rw [hz2, loopL, if_neg (by rw [hb]; simp)] at k4 k5
   refine Nxt.mk ⟨z - 1, G', (stp p).2, y', m ++ [(stp p).1]⟩ (by show (z - 1).toNat < z.toNat; omega) (Wk.slots (by rw [hS]; exact WkL.tail 5 _ rfl (by simp only [List.take_succ_cons, List.take_zero]; repeat' first | exact WkL.nil | refine WkL.cons (Wk1.rfl _) ?_ | refine WkL.cons Wk1.esl ?_ | refine WkL.cons (Wk1.gsl _ _ _) ?_ | refine WkL.cons (Wk1.any _) ?_))) ⟨⟨by show _ ≤ z - 1; omega, by show z - 1 < _; omega⟩, j1, k3.trans j2, by rw [← k4, List.append_assoc]; rfl, k5⟩
 ·have hz2 : z.toNat = 0 := by omega
  rw [hz2] at k4 k5
  have k4 : m ++ [] = l ++ (loopL stp n.toNat q).1 := k4
  rw [List.append_nil] at k4
  simp (maxSteps := 2000000) (disch := omega) only [hS, c71l0, decide_eq_false (show ¬ z > 0 from hz), go_sem, seval, reduceCtorEq]
  exact Ret.keep ⟨rfl, y, by rw [← k4, ← k5]; exact k2, k3⟩
end Go.Proofs.Ythifjndenhjobaa.Rid

/- The closures of gets. Printed by genD4.py. -/
namespace Go.Proofs.Ythifjndenhjobaa.Rid
set_option linter.unusedSimpArgs false
set_option linter.unusedVariables false
set_option maxRecDepth 20000
set_option maxHeartbeats 4000000
open Go.RowKit

def c102 : AC :=
 .seq (.reg [kn 3 (.ld (.t 0) 1 false), kn 4 (.call 69 [(.t 3)]), kn 5 (.bd [(.d (.v (.string ⟨#[]⟩))), (.d (.v (.bool false))), kz] [(0, 1, (.t 4))]), kn 2 (.al [(.d (.v (.string ⟨#[]⟩))), (.d (.v (.bool false))), kz]), ke (.st (.t 2) (.t 5) 3)])
 (.seq (.dreg [[], [0], [1], [], [3, 1], [0, 1, 2], [5, 2, 4, 0, 1, 2], [0, 1, 2, 3, 4, 5, 6], [7, 4, 6, 0, 1, 2, 3, 4, 5, 6]] [kn 6 (.ld (.t 0) 1 false), kn 7 (.call 76 [(.t 6)]), kn 8 (.bin .eql (.t 7) (kc 1)), kn 9 (.ld (.t 0) 1 false), kn 10 (.call 77 [(.t 9)]), kn 11 (.fa (.t 2) 1), ke (.st (.t 11) (.t 8) 1), kn 12 (.fa (.t 2) 2), ke (.st (.t 12) (.t 10) 1)])
 (.reg [kn 13 (.fa (.t 1) 6), kn 14 (.ld (.t 13) 1 false), kn 15 (.ld (.t 2) 3 true), kn 16 (.bs .im 83 3 [(.t 15)]), kn 17 (.app .gr 83 3 32 (.t 14) (.t 16)), kn 18 (.fa (.t 1) 6), ke (.st (.t 18) (.t 17) 1)]))
def r102 : List RC := []

def c103 : AC :=
 .seq (.reg [kn 3 (.ld (.t 0) 1 false), kn 4 (.call 76 [(.t 3)]), kn 5 (.bin .eql (.t 4) (kc 1)), kn 6 (.bd [(.d (.v (.bool false))), kz] [(0, 1, (.t 5))]), kn 2 (.al [(.d (.v (.bool false))), kz]), ke (.st (.t 2) (.t 6) 2)])
 (.seq (.reg [kn 7 (.ld (.t 0) 1 false), kn 8 (.call 77 [(.t 7)]), kn 9 (.fa (.t 2) 1), ke (.st (.t 9) (.t 8) 1)])
 (.reg [kn 10 (.fa (.t 1) 7), kn 11 (.ld (.t 10) 1 false), kn 12 (.ld (.t 2) 2 true), kn 13 (.bs .im 85 2 [(.t 12)]), kn 14 (.app .gr 85 2 16 (.t 11) (.t 13)), kn 15 (.fa (.t 1) 7), ke (.st (.t 15) (.t 14) 1)]))
def r103 : List RC := []

theorem cc102 : Try.f102.body.bind (comp Try.prog (hhD 102)) = some c102 := by kernel_rfl
theorem rr102 : resC Try.prog Try.f102 = some r102 := by kernel_rfl
theorem cc103 : Try.f103.body.bind (comp Try.prog (hhD 103)) = some c103 := by kernel_rfl
theorem rr103 : resC Try.prog Try.f103 = some r103 := by kernel_rfl
theorem WStep.callU {P : Program} {w u : List Nat} {d : Option Nat} {f : FuncId} {args : List Opd} {s : List AV} {H : List ABlk} {Kk : List AV → List ABlk → Prop} {v : AV} {G : List ABlk} (h : ACalls P f (args.map (get s)) (kill u H) fun v' G' => v' = v ∧ G' = kill u G) (h1 : ∀ c, c ∉ w → G[c]? = H[c]?) (h2 : H.length ≤ G.length)
 (hk : Kk (setO s d v) G) : WStep P w u ⟨d, .call f args, none⟩ s H Kk := ⟨v, G, by simp only [StepOk, wanted]; exact h, h1, h2, hk⟩
theorem kr1 {H : List ABlk} {rb c : Nat} (h : c ≠ rb) : (kill [rb] H)[c]? = H[c]? := getset_ne (Ne.symm h)
theorem kr2 {H : List ABlk} {rb c : Nat} (h : c ≠ rb) : (kill [rb, rb] H)[c]? = H[c]? := (kr1 (H := H.set rb .dead) h).trans (kr1 h)
theorem kr3 {H : List ABlk} {rb c : Nat} (h : c ≠ rb) : (kill [rb, rb, rb] H)[c]? = H[c]? := (kr2 (H := H.set rb .dead) h).trans (kr1 h)
theorem kr4 {H : List ABlk} {rb c : Nat} (h : c ≠ rb) : (kill [rb, rb, rb, rb] H)[c]? = H[c]? := (kr3 (H := H.set rb .dead) h).trans (kr1 h)
theorem fr_c {H : List ABlk} {rb : Nat} {k : ABlk} : ∀ c, c ∉ [rb] → (H.set rb k)[c]? = H[c]? := fun c hc => getset_ne (fun e => hc (by simp [e]))
theorem fr_l {H : List ABlk} {rb : Nat} {k : ABlk} : H.length ≤ (H.set rb k).length := by rw [List.length_set]; exact Nat.le_refl _
theorem fr_o {B : List ABlk} {s : ByteArray} {rb tb b : Nat} {r : Rd} {cs : List AV} {k x y : ABlk} {l : List ABlk} : FrOk [B.length] [] (HP B s rb tb b r cs k (x :: l)) (HP B s rb tb b r cs k (y :: l)) (HP B s rb tb b r cs k (y :: l)) := by
 rw [← hp_s0 (x := x) (y := y)]; exact FrOk.set (by simp)
theorem fr_t {B : List ABlk} {s : ByteArray} {rb tb b : Nat} {r : Rd} {cs c : List AV} {k : ABlk} {l : List ABlk} (h1 : tb < B.length) (h3 : tb ≠ b) : FrOk [tb] [] (HP B s rb tb b r cs k l) (HP B s rb tb b r c k l) (HP B s rb tb b r c k l) := by
 rw [← hp_st (c := c) (cs := cs) h1 h3]; exact FrOk.set (by simp)

theorem pm_g {s : ByteArray} (hs : s.size ≤ 300000) {rb vb tb : Nat} {c0 c1 c2 c3 c4 c5 c6 c7 c8 c9 : AV} : GStep s rb vb tb (fun x => [c0, c1, c2, c3, c4, c5, c6, x, c8, c9]) Pm.c 85 2 103 [.ptr vb 0, .ptr tb 0] (pmF s) := fun H r x l h hb => by
 obtain ⟨l1, l2, l3⟩ := h.lt
 have d1 := h.d1
 have d2 := h.d2
 have d3 := h.d3
 have hv := h.ev
 have le0 := h.le
 have le1 := (byte_r s).le r le0
 obtain ⟨y1, q1, e1⟩ : ∃ y q, byteF s r = (y, q) := ⟨_, _, rfl⟩
 rw [e1] at le1
 simp only at le1
 have le2 := (num_r s).le q1 le1
 obtain ⟨y2, q2, e2⟩ : ∃ y q, numF s q1 = (y, q) := ⟨_, _, rfl⟩
 rw [e2] at le2
 simp only at le2
 have ep : pmF s r = ((⟨decide (y1 = 1), y2⟩ : Pm), q2) := by simp only [pmF, bnd, mp, e1, e2]
 have mv : q2.bad = false → r.bad = false ∧ r.a < q2.a := fun hq => by
  have g1 := (pm_r s).st r
  have g2 := (pm_r s).go r
  rw [ep] at g1 g2
  exact ⟨g1 hq, g2 hq⟩
 rw [ep]
 rcases h.g with ⟨rfl, rfl⟩ | ⟨b, rfl, g1, g2, g3, g4⟩
 ·have hh := hp_self (s := s) (r := r) (k := .dead) (b := (H.length + 5)) h.er h.et (.inr (by omega))
  suffices hw : ACalls Try.prog 103 [.ptr vb 0, .ptr tb 0] (HP H s rb tb (H.length + 5) r [c0, c1, c2, c3, c4, c5, c6, .esl, c8, c9] .dead []) fun v G => v = .tup [] ∧ G = HP H s rb tb (H.length + 5) q2 [c0, c1, c2, c3, c4, c5, c6, (.gsl (H.length + 1) 2 [Pm.c (⟨decide (y1 = 1), y2⟩ : Pm)]), c8, c9] .dead [.cells [bv (decide (y1 = 1)), iv y2], .row 85 2 1] by
   rw [hh] at hw
   refine hw.mono fun v G => ?_
   rintro ⟨rfl, rfl⟩
   exact ⟨rfl, _, h.first (b := H.length + 5) (k := .dead) (by omega) [.cells [bv (decide (y1 = 1)), iv y2]] le2 mv rfl⟩
  clear hh
  refine ACalls.into Try.func103 cc103 rr103 fun hcl => ?_
  simp (maxSteps := 2000000) (disch := omega) only [Try.ntmps103, c103, r103, hv, go_sem, seval, reduceCtorEq]
  refine Cont.mk (byte_c (hp_r l1 d2 (by omega)) hs le0) ?_
  rw [e1]
  simp (maxSteps := 2000000) (disch := omega) only [hv, go_sem, seval, reduceCtorEq]
  refine Cont.mk (num_c (hp_r l1 d2 (by omega)) hs le1) ?_
  rw [e2]
  simp (maxSteps := 2000000) (disch := omega) only [hv, go_sem, seval, reduceCtorEq]
  exact Ret.keep ⟨rfl, rfl⟩
 ·have hh := hp_self (s := s) (r := r) (k := (.row 85 2 l.length)) (b := b) h.er h.et (.inl g1)
  have l4 := (List.getElem?_eq_some_iff.1 g1).1
  have hml : l.length ≤ 300000 := by have := h.m hb; omega
  have llm : (l.map Pm.c).length = l.length := List.length_map ..
  suffices hw : ACalls Try.prog 103 [.ptr vb 0, .ptr tb 0] (HP H s rb tb b r [c0, c1, c2, c3, c4, c5, c6, (.gsl b 2 (l.map Pm.c)), c8, c9] (.row 85 2 l.length) []) fun v G => v = .tup [] ∧ G = HP H s rb tb b q2 [c0, c1, c2, c3, c4, c5, c6, (.gsl b 2 ((l ++ [(⟨decide (y1 = 1), y2⟩ : Pm)]).map Pm.c)), c8, c9] (.row 85 2 (l.length + 1)) [.cells [bv (decide (y1 = 1)), iv y2]] by
   rw [hh] at hw
   refine hw.mono fun v G => ?_
   rintro ⟨rfl, rfl⟩
   exact ⟨rfl, _, h.next g1 g2 g3 g4 [.cells [bv (decide (y1 = 1)), iv y2]] le2 mv⟩
  clear hh
  refine ACalls.into Try.func103 cc103 rr103 fun hcl => ?_
  simp (maxSteps := 2000000) (disch := omega) only [Try.ntmps103, c103, r103, hv, go_sem, seval, reduceCtorEq]
  refine Cont.mk (byte_c (hp_r l1 d2 (by omega)) hs le0) ?_
  rw [e1]
  simp (maxSteps := 2000000) (disch := omega) only [hv, go_sem, seval, reduceCtorEq]
  refine Cont.mk (num_c (hp_r l1 d2 (by omega)) hs le1) ?_
  rw [e2]
  simp (maxSteps := 2000000) (disch := omega) only [hv, llm, go_sem, seval, reduceCtorEq]
  exact Ret.keep ⟨rfl, by rw [List.map_append]; rfl⟩

theorem fd_g {s : ByteArray} (hs : s.size ≤ 300000) {rb vb tb : Nat} {c0 c1 c2 c3 c4 c5 c6 c7 c8 c9 : AV} : GStep s rb vb tb (fun x => [c0, c1, c2, c3, c4, c5, x, c7, c8, c9]) Fd.c 83 3 102 [.ptr vb 0, .ptr tb 0] (fdF s) := fun H r x l h hb => by
 obtain ⟨l1, l2, l3⟩ := h.lt
 have d1 := h.d1
 have d2 := h.d2
 have d3 := h.d3
 have hv := h.ev
 have le0 := h.le
 have le1 := (text_r s).le r le0
 obtain ⟨y1, q1, e1⟩ : ∃ y q, textF s r = (y, q) := ⟨_, _, rfl⟩
 rw [e1] at le1
 simp only at le1
 have le2 := (byte_r s).le q1 le1
 obtain ⟨y2, q2, e2⟩ : ∃ y q, byteF s q1 = (y, q) := ⟨_, _, rfl⟩
 rw [e2] at le2
 simp only at le2
 have le3 := (num_r s).le q2 le2
 obtain ⟨y3, q3, e3⟩ : ∃ y q, numF s q2 = (y, q) := ⟨_, _, rfl⟩
 rw [e3] at le3
 simp only at le3
 have ep : fdF s r = ((⟨y1, decide (y2 = 1), y3⟩ : Fd), q3) := by simp only [fdF, bnd, mp, e1, e2, e3]
 have mv : q3.bad = false → r.bad = false ∧ r.a < q3.a := fun hq => by
  have g1 := (fd_r s).st r
  have g2 := (fd_r s).go r
  rw [ep] at g1 g2
  exact ⟨g1 hq, g2 hq⟩
 rw [ep]
 rcases h.g with ⟨rfl, rfl⟩ | ⟨b, rfl, g1, g2, g3, g4⟩
 ·have hh := hp_self (s := s) (r := r) (k := .dead) (b := (H.length + 5)) h.er h.et (.inr (by omega))
  suffices hw : ACalls Try.prog 102 [.ptr vb 0, .ptr tb 0] (HP H s rb tb (H.length + 5) r [c0, c1, c2, c3, c4, c5, .esl, c7, c8, c9] .dead []) fun v G => v = .tup [] ∧ G = HP H s rb tb (H.length + 5) q3 [c0, c1, c2, c3, c4, c5, (.gsl (H.length + 1) 3 [Fd.c (⟨y1, decide (y2 = 1), y3⟩ : Fd)]), c7, c8, c9] .dead [.cells [sv y1, bv (decide (y2 = 1)), iv y3], .row 83 3 1] by
   rw [hh] at hw
   refine hw.mono fun v G => ?_
   rintro ⟨rfl, rfl⟩
   exact ⟨rfl, _, h.first (b := H.length + 5) (k := .dead) (by omega) [.cells [sv y1, bv (decide (y2 = 1)), iv y3]] le3 mv rfl⟩
  clear hh
  refine ACalls.into Try.func102 cc102 rr102 fun hcl => ?_
  simp (maxSteps := 2000000) (disch := omega) only [Try.ntmps102, c102, r102, hv, go_sem, seval, reduceCtorEq]
  refine Cont.mk (text_c (hp_r l1 d2 (by omega)) hs le0) ?_
  rw [e1]
  simp (maxSteps := 2000000) (disch := omega) only [hv, go_sem, seval, reduceCtorEq]
  refine W.dregD [([], []), ([rb], []), ([], [rb]), ([], [rb]), ([rb], []), ([], [rb]), ([H.length], []), ([], []), ([H.length], [])] follows (by decide +kernel) rfl rfl (fun z hz c hc => ?_) ?_
  ·simp only [List.mem_cons, List.not_mem_nil, or_false] at hz
   rcases hz with rfl | rfl | rfl | rfl | rfl | rfl | rfl | rfl | rfl <;> first | exact absurd hc List.not_mem_nil | (rw [List.mem_singleton.1 hc, hp_r l1 d2 (by omega)]; simp) | (rw [List.mem_singleton.1 hc, hp_o0]; simp)
  repeat (rw [DC_p]; simp (maxSteps := 2000000) (disch := omega) only [hv, go_sem, seval, reduceCtorEq])
  refine WStep.call (byte_c (hp_r l1 d2 (by omega)) hs le1) fr_c fr_l ?_
  rw [e2]
  simp (maxSteps := 2000000) (disch := omega) only [hv, kr1, go_sem, seval, reduceCtorEq]
  repeat (rw [DC_p]; simp (maxSteps := 2000000) (disch := omega) only [hv, kr1, go_sem, seval, reduceCtorEq])
  refine WStep.call (num_c (hp_r l1 d2 (by omega)) hs le2) fr_c fr_l ?_
  rw [e3]
  simp (maxSteps := 2000000) (disch := omega) only [hv, kr1, go_sem, seval, reduceCtorEq]
  repeat (rw [DC_p]; simp (maxSteps := 2000000) (disch := omega) only [hv, kr1, go_sem, seval, reduceCtorEq])
  refine WStep.ev (fun _ _ e => by cases e) (fun _ _ e => by cases e) ?_
  simp (maxSteps := 2000000) (disch := omega) only [go_sem, seval, reduceCtorEq]
  refine ⟨fr_o, ?_⟩
  repeat (rw [DC_p]; simp (maxSteps := 2000000) (disch := omega) only [go_sem, seval, reduceCtorEq])
  refine WStep.ev (fun _ _ e => by cases e) (fun _ _ e => by cases e) ?_
  simp (maxSteps := 2000000) (disch := omega) only [go_sem, seval, reduceCtorEq]
  refine ⟨fr_o, ?_⟩
  exact Ret.keep ⟨rfl, rfl⟩
 ·have hh := hp_self (s := s) (r := r) (k := (.row 83 3 l.length)) (b := b) h.er h.et (.inl g1)
  have l4 := (List.getElem?_eq_some_iff.1 g1).1
  have hml : l.length ≤ 300000 := by have := h.m hb; omega
  have llm : (l.map Fd.c).length = l.length := List.length_map ..
  suffices hw : ACalls Try.prog 102 [.ptr vb 0, .ptr tb 0] (HP H s rb tb b r [c0, c1, c2, c3, c4, c5, (.gsl b 3 (l.map Fd.c)), c7, c8, c9] (.row 83 3 l.length) []) fun v G => v = .tup [] ∧ G = HP H s rb tb b q3 [c0, c1, c2, c3, c4, c5, (.gsl b 3 ((l ++ [(⟨y1, decide (y2 = 1), y3⟩ : Fd)]).map Fd.c)), c7, c8, c9] (.row 83 3 (l.length + 1)) [.cells [sv y1, bv (decide (y2 = 1)), iv y3]] by
   rw [hh] at hw
   refine hw.mono fun v G => ?_
   rintro ⟨rfl, rfl⟩
   exact ⟨rfl, _, h.next g1 g2 g3 g4 [.cells [sv y1, bv (decide (y2 = 1)), iv y3]] le3 mv⟩
  clear hh
  refine ACalls.into Try.func102 cc102 rr102 fun hcl => ?_
  simp (maxSteps := 2000000) (disch := omega) only [Try.ntmps102, c102, r102, hv, go_sem, seval, reduceCtorEq]
  refine Cont.mk (text_c (hp_r l1 d2 (by omega)) hs le0) ?_
  rw [e1]
  simp (maxSteps := 2000000) (disch := omega) only [hv, go_sem, seval, reduceCtorEq]
  refine W.dregD [([], []), ([rb], []), ([], [rb]), ([], [rb]), ([rb], []), ([], [rb]), ([H.length], []), ([], []), ([H.length], [])] follows (by decide +kernel) rfl rfl (fun z hz c hc => ?_) ?_
  ·simp only [List.mem_cons, List.not_mem_nil, or_false] at hz
   rcases hz with rfl | rfl | rfl | rfl | rfl | rfl | rfl | rfl | rfl <;> first | exact absurd hc List.not_mem_nil | (rw [List.mem_singleton.1 hc, hp_r l1 d2 (by omega)]; simp) | (rw [List.mem_singleton.1 hc, hp_o0]; simp)
  repeat (rw [DC_p]; simp (maxSteps := 2000000) (disch := omega) only [hv, go_sem, seval, reduceCtorEq])
  refine WStep.call (byte_c (hp_r l1 d2 (by omega)) hs le1) fr_c fr_l ?_
  rw [e2]
  simp (maxSteps := 2000000) (disch := omega) only [hv, kr1, go_sem, seval, reduceCtorEq]
  repeat (rw [DC_p]; simp (maxSteps := 2000000) (disch := omega) only [hv, kr1, go_sem, seval, reduceCtorEq])
  refine WStep.call (num_c (hp_r l1 d2 (by omega)) hs le2) fr_c fr_l ?_
  rw [e3]
  simp (maxSteps := 2000000) (disch := omega) only [hv, kr1, go_sem, seval, reduceCtorEq]
  repeat (rw [DC_p]; simp (maxSteps := 2000000) (disch := omega) only [hv, kr1, go_sem, seval, reduceCtorEq])
  refine WStep.ev (fun _ _ e => by cases e) (fun _ _ e => by cases e) ?_
  simp (maxSteps := 2000000) (disch := omega) only [go_sem, seval, reduceCtorEq]
  refine ⟨fr_o, ?_⟩
  repeat (rw [DC_p]; simp (maxSteps := 2000000) (disch := omega) only [go_sem, seval, reduceCtorEq])
  refine WStep.ev (fun _ _ e => by cases e) (fun _ _ e => by cases e) ?_
  simp (maxSteps := 2000000) (disch := omega) only [go_sem, seval, reduceCtorEq]
  refine ⟨fr_o, ?_⟩
  exact Ret.keep ⟨rfl, by rw [List.map_append]; rfl⟩

end Go.Proofs.Ythifjndenhjobaa.Rid
