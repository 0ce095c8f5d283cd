/- A reader, a variable that is built, a list that grows in it; each. -/
import Derived.Test.YthifjndenhjobaaGreatVD1a
import Derived.Test.YthifjndenhjobaaGreatVT2
set_option linter.unusedSectionVars false
set_option linter.unusedSimpArgs false
set_option linter.unusedVariables false
set_option maxHeartbeats 4000000
set_option maxRecDepth 20000
namespace Go.Proofs.YthifjndenhjobaaGreat.Rid
open Go.RowKit
def c16l0 : AC :=
 .seq (sr [im 7 t4, ib 8 .gtr t7 (kc 0), im 9 t8, ky 10 9 (.mv t0), ky 11 9 (.call 45 [t10]), ky 12 9 (.un .not t11), kn 13 (.pick t9 t12 kF)]
 (.cond t13 (.skip) (.exit 0)))
 (.seq (.block 1 (.reg [im 16 t1, kn 17 (.callv t16 [])]))
 (.reg [im 14 t4, ib 15 .sub t14 (kc 1), im 4 t15]))
def c16 : AC :=
 sr [im 5 t0, ic 6 22 [t5], im 4 t6]
 (.block 0 (.loop c16l0))
def r16 : List RC := []
theorem cc16 : cK Tryz.f16 (hhD 16) c16 := by unfold cK; kernel_rfl
theorem rr16 : resC Tryz.prog Tryz.f16 = some r16 := by kernel_rfl
def HP (B : List ABlk) (s : ByteArray) (rb tb b : Nat) (r : Rd) (cs : List AV) (k : ABlk) (own : List ABlk) : List ABlk := (((B.set rb (rd s r.a r.bad)).set tb (.cells cs)).set b k) ++ own
section
variable {B : List ABlk} {s : ByteArray} {rb tb b : Nat} {r : Rd} {cs : List AV} {k : ABlk} {own l : List ABlk}
theorem hp_pl : ((((B.set rb (rd s r.a r.bad)).set tb (.cells cs)).set b k)).length = B.length := by simp
@[go_sem] theorem hp_app : HP B s rb tb b r cs k own ++ l = HP B s rb tb b r cs k (own ++ l) := by rw [HP, HP, List.append_assoc]
@[go_sem] theorem hp_len0 : (HP B s rb tb b r cs k []).length = B.length := by simp [HP]
@[go_sem] theorem hp_len1 {x : ABlk} : (HP B s rb tb b r cs k [x]).length = B.length + 1 := by simp [HP]
@[go_sem] theorem hp_len2 {x y : ABlk} : (HP B s rb tb b r cs k [x, y]).length = B.length + 2 := by simp [HP]
@[go_sem] theorem hp_r (h1 : rb < B.length) (h2 : rb ≠ tb) (h3 : rb ≠ b) : (HP B s rb tb b r cs k own)[rb]? = some (rd s r.a r.bad) := by
 rw [HP, List.getElem?_append_left (by rw [hp_pl]; exact h1), getset_ne (Ne.symm h3), getset_ne (Ne.symm h2), List.getElem?_set_self h1]
@[go_sem] theorem hp_t (h1 : tb < B.length) (h3 : tb ≠ b) : (HP B s rb tb b r cs k own)[tb]? = some (.cells cs) := by
 rw [HP, List.getElem?_append_left (by rw [hp_pl]; exact h1), getset_ne (Ne.symm h3), List.getElem?_set_self (by rw [List.length_set]; exact h1)]
@[go_sem] theorem hp_b (h1 : b < B.length) : (HP B s rb tb b r cs k own)[b]? = some k := by
 rw [HP, List.getElem?_append_left (by rw [hp_pl]; exact h1), List.getElem?_set_self (by rw [List.length_set, List.length_set]; exact h1)]
@[go_sem] theorem hp_v {v : Nat} (h1 : v < B.length) (h2 : v ≠ rb) (h3 : v ≠ tb) (h4 : v ≠ b) : (HP B s rb tb b r cs k own)[v]? = B[v]? := by
 rw [HP, List.getElem?_append_left (by rw [hp_pl]; exact h1), getset_ne (Ne.symm h4), getset_ne (Ne.symm h3), getset_ne (Ne.symm h2)]
@[go_sem] theorem hp_o0 {x : ABlk} : (HP B s rb tb b r cs k (x :: l))[B.length]? = some x := by
 rw [HP, List.getElem?_append_right (by rw [hp_pl]; exact Nat.le_refl _), hp_pl, Nat.sub_self]; rfl
@[go_sem] theorem hp_s0 {x y : ABlk} : (HP B s rb tb b r cs k (x :: l)).set B.length y = HP B s rb tb b r cs k (y :: l) := by
 rw [HP, HP, List.set_append_right _ _ (by rw [hp_pl]; exact Nat.le_refl _), hp_pl, Nat.sub_self]; rfl
@[go_sem] theorem hp_sr {q : Rd} (h1 : rb < B.length) (h2 : rb ≠ tb) (h3 : rb ≠ b) : (HP B s rb tb b r cs k own).set rb (rd s q.a q.bad) = HP B s rb tb b q cs k own := by
 rw [HP, HP, List.set_append_left _ _ (by rw [hp_pl]; exact h1), List.set_comm _ _ (Ne.symm h3), List.set_comm _ _ (Ne.symm h2), List.set_set]
@[go_sem] theorem hp_st {c : List AV} (h1 : tb < B.length) (h3 : tb ≠ b) : (HP B s rb tb b r cs k own).set tb (.cells c) = HP B s rb tb b r c k own := by
 rw [HP, HP, List.set_append_left _ _ (by rw [hp_pl]; exact h1), List.set_comm _ _ (Ne.symm h3), List.set_set]
@[go_sem] theorem hp_sb {j : ABlk} (h1 : b < B.length) : (HP B s rb tb b r cs k own).set b j = HP B s rb tb b r cs j own := by
 rw [HP, HP, List.set_append_left _ _ (by rw [hp_pl]; exact h1), List.set_set]
theorem hp_lo {c : Nat} (h : c < B.length) (h2 : c ≠ rb) (h3 : c ≠ tb) (h4 : c ≠ b) : (HP B s rb tb b r cs k own)[c]? = B[c]? := hp_v h h2 h3 h4
theorem hp_ge : B.length <= (HP B s rb tb b r cs k own).length := by rw [HP, List.length_append, hp_pl]; omega
theorem hp_self (h1 : B[rb]? = some (rd s r.a r.bad)) (h2 : B[tb]? = some (.cells cs)) (h3 : B[b]? = some k \/ B.length <= b) : HP B s rb tb b r cs k [] = B := by
 rw [HP, List.append_nil, set_self h1, set_self h2]; rcases h3 with h | h
 ·exact set_self h
 ·exact List.set_eq_of_length_le h
end
structure GS {α : Type} (s : ByteArray) (rb vb tb : Nat) (cs : AV -> List AV) (f : α -> List Dat) (ety sz : Nat) (H : List ABlk) (r : Rd) (x : AV) (l : List α) : Prop where
 er : H[rb]? = some (rd s r.a r.bad)
 ev : H[vb]? = some (.cells [.ptr rb 0])
 et : H[tb]? = some (.cells (cs x))
 g : (x = .esl /\ l = []) \/ ∃ b, x = .gsl b sz (l.map f) /\ H[b]? = some (.row ety sz l.length) /\ b ≠ rb /\ b ≠ vb /\ b ≠ tb
 d1 : rb ≠ vb
 d2 : rb ≠ tb
 d3 : vb ≠ tb
 le : r.a <= s.size
 m : r.bad = false -> l.length <= r.a
def GF (rb tb : Nat) (x : AV) : List Nat := rb :: tb :: rowB x
section
variable {α : Type} {s : ByteArray} {rb vb tb : Nat} {cs : AV -> List AV} {f : α -> List Dat} {ety sz : Nat} {H : List ABlk} {r : Rd} {x : AV} {l : List α}
theorem GS.lt (h : GS s rb vb tb cs f ety sz H r x l) : rb < H.length /\ vb < H.length /\ tb < H.length := ⟨(List.getElem?_eq_some_iff.1 h.er).1, (List.getElem?_eq_some_iff.1 h.ev).1, (List.getElem?_eq_some_iff.1 h.et).1⟩
theorem GS.setR (h : GS s rb vb tb cs f ety sz H r x l) {q : Rd} (h1 : q.a <= s.size) (h2 : q.bad = false -> l.length <= q.a) : GS s rb vb tb cs f ety sz (H.set rb (rd s q.a q.bad)) q x l /\ Chg H (GF rb tb x) (H.set rb (rd s q.a q.bad)) (GF rb tb x) := by
 refine ⟨⟨List.getElem?_set_self h.lt.1, by rw [getset_ne h.d1, h.ev], by rw [getset_ne h.d2, h.et], ?_, h.d1, h.d2, h.d3, h1, h2⟩, by simp, fun b _ hb => getset_ne (fun e => hb (by rw [<- e]; simp [GF])), fun b hb => .inl hb⟩; rcases h.g with hg | ⟨b, e1, e2, e3, e4, e5⟩
 ·exact .inl hg
 ·exact .inr ⟨b, e1, by rw [getset_ne (Ne.symm e3), e2], e3, e4, e5⟩
theorem GS.first {b : Nat} {k : ABlk} (h : GS s rb vb tb cs f ety sz H r .esl l) (hb : H.length <= b) {q : Rd} (o : List ABlk) {y : α} (h1 : q.a <= s.size) (h2 : q.bad = false -> r.bad = false /\ r.a < q.a) (e : l = []) : GS s rb vb tb cs f ety sz (HP H s rb tb b q (cs (.gsl (H.length + o.length) sz [f y])) k (o ++ [.row ety sz 1])) q (.gsl (H.length + o.length) sz [f y]) (l ++ [y]) /\
 Chg H (GF rb tb .esl) (HP H s rb tb b q (cs (.gsl (H.length + o.length) sz [f y])) k (o ++ [.row ety sz 1])) (GF rb tb (.gsl (H.length + o.length) sz [f y])) := by
 obtain ⟨l1, l2, l3⟩ := h.lt; have d2 := h.d2; have d1 := h.d1; have d3 := h.d3; refine ⟨⟨hp_r l1 d2 (by omega), by rw [hp_v l2 (Ne.symm d1) d3 (by omega), h.ev], hp_t l3 (by omega), .inr ⟨_, by rw [e]; rfl, ?_, by omega, by omega, by omega⟩, d1, d2, d3, h1, fun hq => ?_⟩, hp_ge, fun c hc hF => ?_, fun c hc => ?_⟩
 ·rw [HP, List.getElem?_append_right (by rw [hp_pl]; omega), hp_pl, Nat.add_sub_cancel_left, List.getElem?_append_right (Nat.le_refl _), Nat.sub_self, e]; rfl
 ·obtain ⟨h3, h4⟩ := h2 hq
  have := h.m h3; rw [List.length_append, List.length_singleton]; omega
 ·simp only [GF, rowB, List.mem_cons, List.not_mem_nil, or_false, not_or] at hF
  exact hp_lo hc hF.1 hF.2 (by omega)
 ·simp only [GF, rowB, List.mem_cons, List.not_mem_nil, or_false] at hc ⊢
  rcases hc with hc | hc | hc
  ·exact .inl (.inl hc)
  ·exact .inl (.inr hc)
  ·exact .inr (by omega)
theorem GS.next {b : Nat} (h : GS s rb vb tb cs f ety sz H r (.gsl b sz (l.map f)) l) (hb : H[b]? = some (.row ety sz l.length)) (e1 : b ≠ rb) (e2 : b ≠ vb) (e3 : b ≠ tb) {q : Rd} (o : List ABlk) {y : α} (h1 : q.a <= s.size) (h2 : q.bad = false -> r.bad = false /\ r.a < q.a) : GS s rb vb tb cs f ety sz (HP H s rb tb b q (cs (.gsl b sz ((l ++ [y]).map f))) (.row ety sz (l.length + 1)) o) q (.gsl b sz ((l ++ [y]).map f)) (l ++ [y]) /\
 Chg H (GF rb tb (.gsl b sz (l.map f))) (HP H s rb tb b q (cs (.gsl b sz ((l ++ [y]).map f))) (.row ety sz (l.length + 1)) o) (GF rb tb (.gsl b sz ((l ++ [y]).map f))) := by
 obtain ⟨l1, l2, l3⟩ := h.lt; have l4 := (List.getElem?_eq_some_iff.1 hb).1; have d2 := h.d2; have d1 := h.d1; have d3 := h.d3; refine ⟨⟨hp_r l1 d2 (Ne.symm e1), by rw [hp_v l2 (Ne.symm d1) d3 (Ne.symm e2), h.ev], hp_t l3 (Ne.symm e3), .inr ⟨_, rfl, by rw [hp_b l4, List.length_append]; rfl, e1, e2, e3⟩, d1, d2, d3, h1, fun hq => ?_⟩, hp_ge, fun c hc hF => ?_, fun c hc => .inl hc⟩
 ·obtain ⟨h3, h4⟩ := h2 hq
  have := h.m h3; rw [List.length_append, List.length_singleton]; omega
 ·simp only [GF, rowB, List.mem_cons, List.not_mem_nil, or_false, not_or] at hF
  exact hp_lo hc hF.1 hF.2.1 hF.2.2
end
structure EG (α : Type) where
 z : Int
 H : List ABlk
 r : Rd
 x : AV
 l : List α
def GStep {α : Type} (s : ByteArray) (rb vb tb : Nat) (cs : AV -> List AV) (f : α -> List Dat) (ety sz : Nat) (fn : FuncId) (caps : List AV) (stp : Way α) : Prop :=
 ∀ (H : List ABlk) (r : Rd) (x : AV) (l : List α), GS s rb vb tb cs f ety sz H r x l -> r.bad = false -> ACalls Tryz.prog fn caps H fun v H' => v = .tup [] /\ ∃ x', GS s rb vb tb cs f ety sz H' (stp r).2 x' (l ++ [(stp r).1]) /\ Chg H (GF rb tb x) H' (GF rb tb x')
theorem each_c {α : Type} {s : ByteArray} (hs : s.size <= 300000) {rb vb tb : Nat} {cs : AV -> List AV} {f : α -> List Dat} {ety sz : Nat} {fn : FuncId} {caps : List AV} {stp : Way α} (hc : callOk Tryz.prog fn = true) (hstep : GStep s rb vb tb cs f ety sz fn caps stp)
 {H : List ABlk} {r : Rd} {x : AV} {l : List α} (h : GS s rb vb tb cs f ety sz H r x l) : ACalls Tryz.prog 16 [.ptr rb 0, .fn fn caps] H fun v H' => v = .tup [] /\ ∃ x', GS s rb vb tb cs f ety sz H' (listF s stp r).2 x' (l ++ (listF s stp r).1) /\ Chg H (GF rb tb x) H' (GF rb tb x') := by
 refine ACalls.into Tryz.func16 cc16 rr16 fun hcl => ?_
 have hn := (num_r s).ok r h.le; obtain ⟨g0, c0⟩ := h.setR ((num_r s).le r h.le) (fun hb => Nat.le_trans (h.m ((num_r s).st r hb)) (Nat.le_of_lt ((num_r s).go r hb))); simp (disch := omega) only [Tryz.ntmps16, c16, r16, go_sem, seval, reduceCtorEq]; refine Cont.mk (num_c h.er hs h.le) ?_; obtain ⟨n, q, hnq⟩ : ∃ n q, numF s r = (n, q) := ⟨_, _, rfl⟩; rw [listF, bnd]; rw [hnq] at hn g0 c0 ⊢; simp only at hn g0 c0 ⊢; simp (disch := omega) only [go_sem, seval, reduceCtorEq]; obtain ⟨S, hS⟩ : ∃ S : EG α -> List AV, ∀ g, S g = [.ptr rb 0, .fn fn caps, .any, .any, iv g.z] ++ List.replicate 13 .any := ⟨_, fun _ => rfl⟩; refine W.loopG (γ := EG α) (fun g => g.z.toNat) S (fun g => g.H) (fun g => fit32 g.z /\ GS s rb vb tb cs f ety sz g.H g.r g.x g.l /\ Chg H (GF rb tb x) g.H (GF rb tb g.x) /\ g.l ++ (loopL stp g.z.toNat g.r).1 = l ++ (loopL stp n.toNat q).1 /\ (loopL stp g.z.toNat g.r).2 = (loopL stp n.toNat q).2) ⟨n, _, q, x, l⟩ (Wk.slots (WkL.tw 5 (hS _))) ⟨hn, g0, c0, rfl, rfl⟩ (fun g hg => ?_); obtain ⟨z, G, p, y, m⟩ := g; obtain ⟨k1, k2, k3, k4, k5⟩ := hg; simp only at k1 k2 k3 k4 k5; have z1 := k1.1; have z2 := k1.2
 by_cases hz : 0 < z
 ·have hz2 : z.toNat = (z - 1).toNat + 1 := by omega
  cases hb : p.bad with
  | true =>
   have kr := k2.er; rw [hb] at kr; rw [loopL_bad _ _ hb] at k4 k5; simp (disch := omega) only [hS, c16l0, decide_eq_true (show z > 0 from hz), go_sem, seval, reduceCtorEq]; refine Cont.mk (bad_c (r := ⟨p.a, true⟩) kr) ?_; simp (disch := omega) only [go_sem, seval, reduceCtorEq]; rw [List.append_nil] at k4; exact Ret.keep ⟨rfl, y, by rw [<- k4, <- k5]; exact k2, k3⟩
  | false =>
   have kr := k2.er; rw [hb] at kr; simp (disch := omega) only [hS, c16l0, decide_eq_true (show z > 0 from hz), go_sem, seval, reduceCtorEq]; refine Cont.mk (bad_c (r := ⟨p.a, false⟩) kr) ?_; simp (disch := omega) only [go_sem, seval, reduceCtorEq]; refine ⟨hc, ?_⟩; refine Cont.rel (hstep G p y m k2 hb) ?_; rintro v G' ⟨rfl, y', j1, j2⟩; simp (disch := omega) only [go_sem, seval, reduceCtorEq]; have hw : IntKind.i64.wrap (z - 1) = z - 1 := w_i64 (by omega) (by omega); rw [hz2, loopL, if_neg (by rw [hb]; simp)] at k4 k5; refine Nxt.mk ⟨z - 1, G', (stp p).2, y', m ++ [(stp p).1]⟩ (by show (z - 1).toNat < z.toNat; omega) (Wk.slots (WkL.tw 5 (hS _))) ⟨⟨by show _ <= z - 1; omega, by show z - 1 < _; omega⟩, j1, k3.trans j2, by rw [<- k4, List.append_assoc]; rfl, k5⟩
 ·have hz2 : z.toNat = 0 := by omega
  rw [hz2] at k4 k5; have k4 : m ++ [] = l ++ (loopL stp n.toNat q).1 := k4; rw [List.append_nil] at k4; simp (disch := omega) only [hS, c16l0, decide_eq_false (show ¬ z > 0 from hz), go_sem, seval, reduceCtorEq]; exact Ret.keep ⟨rfl, y, by rw [<- k4, <- k5]; exact k2, k3⟩
def c46 : AC :=
 sr [il 3 t0, ic 4 13 [t3], kn 5 (.bd [ks, (.d (.v (.bool false))), kz] [(0, 1, t4)]), kn 2 (.al [ks, (.d (.v (.bool false))), kz]), ke (.st t2 t5 3)]
 (.seq (.dreg [[], [0], [1], [], [3, 1], [0, 1, 2], [5, 2, 4, 0, 1, 2], [0, 1, 2, 3, 4, 5, 6], [7, 4, 6, 0, 1, 2, 3, 4, 5, 6]] [il 6 t0, ic 7 21 [t6], ib 8 .eql t7 (kc 1), il 9 t0, ic 10 22 [t9], ia 11 t2 1, ke (.st t11 t8 1), ia 12 t2 2, ke (.st t12 t10 1)])
 (.reg [ia 13 t1 6, il 14 t13, kn 15 (.ld t2 3 true), kn 16 (.bs .im 86 3 [t15]), kn 17 (.app .gr 86 3 32 t14 t16), ia 18 t1 6, ke (.st t18 t17 1)]))
def r46 : List RC := []
def c47 : AC :=
 sr [il 3 t0, ic 4 21 [t3], ib 5 .eql t4 (kc 1), kn 6 (.bd [(.d (.v (.bool false))), kz] [(0, 1, t5)]), kn 2 (.al [(.d (.v (.bool false))), kz]), ke (.st t2 t6 2)]
 (sr [il 7 t0, ic 8 22 [t7], ia 9 t2 1, ke (.st t9 t8 1)]
 (.reg [ia 10 t1 7, il 11 t10, kn 12 (.ld t2 2 true), kn 13 (.bs .im 88 2 [t12]), kn 14 (.app .gr 88 2 16 t11 t13), ia 15 t1 7, ke (.st t15 t14 1)]))
def r47 : List RC := []
theorem cc46 : cK Tryz.f46 (hhD 46) c46 := by unfold cK; kernel_rfl
theorem rr46 : resC Tryz.prog Tryz.f46 = some r46 := by kernel_rfl
theorem cc47 : cK Tryz.f47 (hhD 47) c47 := by unfold cK; kernel_rfl
theorem rr47 : resC Tryz.prog Tryz.f47 = some r47 := by kernel_rfl
theorem WStep.callU {P : Program} {w u : List Nat} {d : Option Nat} {f : FuncId} {args : List Opd} {s : List AV} {H : List ABlk} {Kk : List AV -> List ABlk -> Prop} {v : AV} {G : List ABlk} (h : ACalls P f (args.map (get s)) (kill u H) fun v' G' => v' = v /\ G' = kill u G) (h1 : ∀ c, c ∉ w -> G[c]? = H[c]?) (h2 : H.length <= G.length)
 (hk : Kk (setO s d v) G) : WStep P w u ⟨d, .call f args, none⟩ s H Kk := ⟨v, G, by simp only [StepOk, wanted]; exact h, h1, h2, hk⟩
theorem kr1 {H : List ABlk} {rb c : Nat} (h : c ≠ rb) : (kill [rb] H)[c]? = H[c]? := getset_ne (Ne.symm h)
theorem kr2 {H : List ABlk} {rb c : Nat} (h : c ≠ rb) : (kill [rb, rb] H)[c]? = H[c]? := (kr1 (H := H.set rb .dead) h).trans (kr1 h)
theorem kr3 {H : List ABlk} {rb c : Nat} (h : c ≠ rb) : (kill [rb, rb, rb] H)[c]? = H[c]? := (kr2 (H := H.set rb .dead) h).trans (kr1 h)
theorem kr4 {H : List ABlk} {rb c : Nat} (h : c ≠ rb) : (kill [rb, rb, rb, rb] H)[c]? = H[c]? := (kr3 (H := H.set rb .dead) h).trans (kr1 h)
theorem fr_c {H : List ABlk} {rb : Nat} {k : ABlk} : ∀ c, c ∉ [rb] -> (H.set rb k)[c]? = H[c]? := fun c hc => getset_ne (fun e => hc (by simp [e]))
theorem fr_l {H : List ABlk} {rb : Nat} {k : ABlk} : H.length <= (H.set rb k).length := by rw [List.length_set]; exact Nat.le_refl _
theorem fr_o {B : List ABlk} {s : ByteArray} {rb tb b : Nat} {r : Rd} {cs : List AV} {k x y : ABlk} {l : List ABlk} : FrOk [B.length] [] (HP B s rb tb b r cs k (x :: l)) (HP B s rb tb b r cs k (y :: l)) (HP B s rb tb b r cs k (y :: l)) := by
 rw [<- hp_s0 (x := x) (y := y)]; exact FrOk.set (by simp)
theorem fr_t {B : List ABlk} {s : ByteArray} {rb tb b : Nat} {r : Rd} {cs c : List AV} {k : ABlk} {l : List ABlk} (h1 : tb < B.length) (h3 : tb ≠ b) : FrOk [tb] [] (HP B s rb tb b r cs k l) (HP B s rb tb b r c k l) (HP B s rb tb b r c k l) := by
 rw [<- hp_st (c := c) (cs := cs) h1 h3]; exact FrOk.set (by simp)
theorem pm_g {s : ByteArray} (hs : s.size <= 300000) {rb vb tb : Nat} {c0 c1 c2 c3 c4 c5 c6 c7 c8 c9 : AV} : GStep s rb vb tb (fun x => [c0, c1, c2, c3, c4, c5, c6, x, c8, c9]) Pm.c 88 2 47 [.ptr vb 0, .ptr tb 0] (pmF s) := fun H r x l h hb => by
 obtain ⟨l1, l2, l3⟩ := h.lt; have d1 := h.d1; have d2 := h.d2; have d3 := h.d3; have hv := h.ev; have le0 := h.le; have le1 := (byte_r s).le r le0; obtain ⟨y1, q1, e1⟩ : ∃ y q, byteF s r = (y, q) := ⟨_, _, rfl⟩; rw [e1] at le1; simp only at le1; have le2 := (num_r s).le q1 le1; obtain ⟨y2, q2, e2⟩ : ∃ y q, numF s q1 = (y, q) := ⟨_, _, rfl⟩; rw [e2] at le2; simp only at le2; have ep : pmF s r = ((⟨decide (y1 = 1), y2⟩ : Pm), q2) := by simp only [pmF, bnd, mp, e1, e2]
 have mv : q2.bad = false -> r.bad = false /\ r.a < q2.a := fun hq => by
  have g1 := (pm_r s).st r; have g2 := (pm_r s).go r; rw [ep] at g1 g2; exact ⟨g1 hq, g2 hq⟩
 rw [ep]; rcases h.g with ⟨rfl, rfl⟩ | ⟨b, rfl, g1, g2, g3, g4⟩
 ·have hh := hp_self (s := s) (r := r) (k := .dead) (b := (H.length + 5)) h.er h.et (.inr (by omega))
  suffices hw : ACalls Tryz.prog 47 [.ptr vb 0, .ptr tb 0] (HP H s rb tb (H.length + 5) r [c0, c1, c2, c3, c4, c5, c6, .esl, c8, c9] .dead []) fun v G => v = .tup [] /\ G = HP H s rb tb (H.length + 5) q2 [c0, c1, c2, c3, c4, c5, c6, (.gsl (H.length + 1) 2 [Pm.c (⟨decide (y1 = 1), y2⟩ : Pm)]), c8, c9] .dead [.cells [bv (decide (y1 = 1)), iv y2], .row 88 2 1] by
   rw [hh] at hw; refine hw.mono fun v G => ?_
   rintro ⟨rfl, rfl⟩; exact ⟨rfl, _, h.first (b := H.length + 5) (k := .dead) (by omega) [.cells [bv (decide (y1 = 1)), iv y2]] le2 mv rfl⟩
  clear hh; refine ACalls.into Tryz.func47 cc47 rr47 fun hcl => ?_
  simp (disch := omega) only [Tryz.ntmps47, c47, r47, hv, go_sem, seval, reduceCtorEq]; refine Cont.mk (byte_c (hp_r l1 d2 (by omega)) hs le0) ?_; rw [e1]; simp (disch := omega) only [hv, go_sem, seval, reduceCtorEq]; refine Cont.mk (num_c (hp_r l1 d2 (by omega)) hs le1) ?_; rw [e2]; simp (disch := omega) only [hv, go_sem, seval, reduceCtorEq]; exact Ret.keep ⟨rfl, rfl⟩
 ·have hh := hp_self (s := s) (r := r) (k := (.row 88 2 l.length)) (b := b) h.er h.et (.inl g1)
  have l4 := (List.getElem?_eq_some_iff.1 g1).1; have hml : l.length <= 300000 := by have := h.m hb; omega
  have llm : (l.map Pm.c).length = l.length := lnm ..
  suffices hw : ACalls Tryz.prog 47 [.ptr vb 0, .ptr tb 0] (HP H s rb tb b r [c0, c1, c2, c3, c4, c5, c6, (.gsl b 2 (l.map Pm.c)), c8, c9] (.row 88 2 l.length) []) fun v G => v = .tup [] /\ G = HP H s rb tb b q2 [c0, c1, c2, c3, c4, c5, c6, (.gsl b 2 ((l ++ [(⟨decide (y1 = 1), y2⟩ : Pm)]).map Pm.c)), c8, c9] (.row 88 2 (l.length + 1)) [.cells [bv (decide (y1 = 1)), iv y2]] by
   rw [hh] at hw; refine hw.mono fun v G => ?_
   rintro ⟨rfl, rfl⟩; exact ⟨rfl, _, h.next g1 g2 g3 g4 [.cells [bv (decide (y1 = 1)), iv y2]] le2 mv⟩
  clear hh; refine ACalls.into Tryz.func47 cc47 rr47 fun hcl => ?_
  simp (disch := omega) only [Tryz.ntmps47, c47, r47, hv, go_sem, seval, reduceCtorEq]; refine Cont.mk (byte_c (hp_r l1 d2 (by omega)) hs le0) ?_; rw [e1]; simp (disch := omega) only [hv, go_sem, seval, reduceCtorEq]; refine Cont.mk (num_c (hp_r l1 d2 (by omega)) hs le1) ?_; rw [e2]; simp (disch := omega) only [hv, llm, go_sem, seval, reduceCtorEq]; exact Ret.keep ⟨rfl, by rw [List.map_append]; rfl⟩
theorem fd_g {s : ByteArray} (hs : s.size <= 300000) {rb vb tb : Nat} {c0 c1 c2 c3 c4 c5 c6 c7 c8 c9 : AV} : GStep s rb vb tb (fun x => [c0, c1, c2, c3, c4, c5, x, c7, c8, c9]) Fd.c 86 3 46 [.ptr vb 0, .ptr tb 0] (fdF s) := fun H r x l h hb => by
 obtain ⟨l1, l2, l3⟩ := h.lt; have d1 := h.d1; have d2 := h.d2; have d3 := h.d3; have hv := h.ev; have le0 := h.le; have le1 := (text_r s).le r le0; obtain ⟨y1, q1, e1⟩ : ∃ y q, textF s r = (y, q) := ⟨_, _, rfl⟩; rw [e1] at le1; simp only at le1; have le2 := (byte_r s).le q1 le1; obtain ⟨y2, q2, e2⟩ : ∃ y q, byteF s q1 = (y, q) := ⟨_, _, rfl⟩; rw [e2] at le2; simp only at le2; have le3 := (num_r s).le q2 le2; obtain ⟨y3, q3, e3⟩ : ∃ y q, numF s q2 = (y, q) := ⟨_, _, rfl⟩; rw [e3] at le3; simp only at le3; have ep : fdF s r = ((⟨y1, decide (y2 = 1), y3⟩ : Fd), q3) := by simp only [fdF, bnd, mp, e1, e2, e3]
 have mv : q3.bad = false -> r.bad = false /\ r.a < q3.a := fun hq => by
  have g1 := (fd_r s).st r; have g2 := (fd_r s).go r; rw [ep] at g1 g2; exact ⟨g1 hq, g2 hq⟩
 rw [ep]; rcases h.g with ⟨rfl, rfl⟩ | ⟨b, rfl, g1, g2, g3, g4⟩
 ·have hh := hp_self (s := s) (r := r) (k := .dead) (b := (H.length + 5)) h.er h.et (.inr (by omega))
  suffices hw : ACalls Tryz.prog 46 [.ptr vb 0, .ptr tb 0] (HP H s rb tb (H.length + 5) r [c0, c1, c2, c3, c4, c5, .esl, c7, c8, c9] .dead []) fun v G => v = .tup [] /\ G = HP H s rb tb (H.length + 5) q3 [c0, c1, c2, c3, c4, c5, (.gsl (H.length + 1) 3 [Fd.c (⟨y1, decide (y2 = 1), y3⟩ : Fd)]), c7, c8, c9] .dead [.cells [sv y1, bv (decide (y2 = 1)), iv y3], .row 86 3 1] by
   rw [hh] at hw; refine hw.mono fun v G => ?_
   rintro ⟨rfl, rfl⟩; exact ⟨rfl, _, h.first (b := H.length + 5) (k := .dead) (by omega) [.cells [sv y1, bv (decide (y2 = 1)), iv y3]] le3 mv rfl⟩
  clear hh; refine ACalls.into Tryz.func46 cc46 rr46 fun hcl => ?_
  simp (disch := omega) only [Tryz.ntmps46, c46, r46, hv, go_sem, seval, reduceCtorEq]; refine Cont.mk (text_c (hp_r l1 d2 (by omega)) hs le0) ?_; rw [e1]; simp (disch := omega) only [hv, go_sem, seval, reduceCtorEq]; refine W.dregD [([], []), ([rb], []), ([], [rb]), ([], [rb]), ([rb], []), ([], [rb]), ([H.length], []), ([], []), ([H.length], [])] follows (by decide +kernel) rfl rfl (fun z hz c hc => ?_) ?_
  ·simp only [List.mem_cons, List.not_mem_nil, or_false] at hz
   rcases hz with rfl | rfl | rfl | rfl | rfl | rfl | rfl | rfl | rfl <;> first | exact absurd hc List.not_mem_nil | (rw [List.mem_singleton.1 hc, hp_r l1 d2 (by omega)]; simp) | (rw [List.mem_singleton.1 hc, hp_o0]; simp)
  repeat (rw [DC_p]; simp (disch := omega) only [hv, go_sem, seval, reduceCtorEq])
  refine WStep.call (byte_c (hp_r l1 d2 (by omega)) hs le1) fr_c fr_l ?_; rw [e2]; simp (disch := omega) only [hv, kr1, go_sem, seval, reduceCtorEq]
  repeat (rw [DC_p]; simp (disch := omega) only [hv, kr1, go_sem, seval, reduceCtorEq])
  refine WStep.call (num_c (hp_r l1 d2 (by omega)) hs le2) fr_c fr_l ?_; rw [e3]; simp (disch := omega) only [hv, kr1, go_sem, seval, reduceCtorEq]
  repeat (rw [DC_p]; simp (disch := omega) only [hv, kr1, go_sem, seval, reduceCtorEq])
  refine WStep.ev (fun _ _ e => by cases e) (fun _ _ e => by cases e) ?_; simp (disch := omega) only [go_sem, seval, reduceCtorEq]; refine ⟨fr_o, ?_⟩
  repeat (rw [DC_p]; simp (disch := omega) only [go_sem, seval, reduceCtorEq])
  refine WStep.ev (fun _ _ e => by cases e) (fun _ _ e => by cases e) ?_; simp (disch := omega) only [go_sem, seval, reduceCtorEq]; refine ⟨fr_o, ?_⟩; exact Ret.keep ⟨rfl, rfl⟩
 ·have hh := hp_self (s := s) (r := r) (k := (.row 86 3 l.length)) (b := b) h.er h.et (.inl g1)
  have l4 := (List.getElem?_eq_some_iff.1 g1).1; have hml : l.length <= 300000 := by have := h.m hb; omega
  have llm : (l.map Fd.c).length = l.length := lnm ..
  suffices hw : ACalls Tryz.prog 46 [.ptr vb 0, .ptr tb 0] (HP H s rb tb b r [c0, c1, c2, c3, c4, c5, (.gsl b 3 (l.map Fd.c)), c7, c8, c9] (.row 86 3 l.length) []) fun v G => v = .tup [] /\ G = HP H s rb tb b q3 [c0, c1, c2, c3, c4, c5, (.gsl b 3 ((l ++ [(⟨y1, decide (y2 = 1), y3⟩ : Fd)]).map Fd.c)), c7, c8, c9] (.row 86 3 (l.length + 1)) [.cells [sv y1, bv (decide (y2 = 1)), iv y3]] by
   rw [hh] at hw; refine hw.mono fun v G => ?_
   rintro ⟨rfl, rfl⟩; exact ⟨rfl, _, h.next g1 g2 g3 g4 [.cells [sv y1, bv (decide (y2 = 1)), iv y3]] le3 mv⟩
  clear hh; refine ACalls.into Tryz.func46 cc46 rr46 fun hcl => ?_
  simp (disch := omega) only [Tryz.ntmps46, c46, r46, hv, go_sem, seval, reduceCtorEq]; refine Cont.mk (text_c (hp_r l1 d2 (by omega)) hs le0) ?_; rw [e1]; simp (disch := omega) only [hv, go_sem, seval, reduceCtorEq]; refine W.dregD [([], []), ([rb], []), ([], [rb]), ([], [rb]), ([rb], []), ([], [rb]), ([H.length], []), ([], []), ([H.length], [])] follows (by decide +kernel) rfl rfl (fun z hz c hc => ?_) ?_
  ·simp only [List.mem_cons, List.not_mem_nil, or_false] at hz
   rcases hz with rfl | rfl | rfl | rfl | rfl | rfl | rfl | rfl | rfl <;> first | exact absurd hc List.not_mem_nil | (rw [List.mem_singleton.1 hc, hp_r l1 d2 (by omega)]; simp) | (rw [List.mem_singleton.1 hc, hp_o0]; simp)
  repeat (rw [DC_p]; simp (disch := omega) only [hv, go_sem, seval, reduceCtorEq])
  refine WStep.call (byte_c (hp_r l1 d2 (by omega)) hs le1) fr_c fr_l ?_; rw [e2]; simp (disch := omega) only [hv, kr1, go_sem, seval, reduceCtorEq]
  repeat (rw [DC_p]; simp (disch := omega) only [hv, kr1, go_sem, seval, reduceCtorEq])
  refine WStep.call (num_c (hp_r l1 d2 (by omega)) hs le2) fr_c fr_l ?_; rw [e3]; simp (disch := omega) only [hv, kr1, go_sem, seval, reduceCtorEq]
  repeat (rw [DC_p]; simp (disch := omega) only [hv, kr1, go_sem, seval, reduceCtorEq])
  refine WStep.ev (fun _ _ e => by cases e) (fun _ _ e => by cases e) ?_; simp (disch := omega) only [go_sem, seval, reduceCtorEq]; refine ⟨fr_o, ?_⟩
  repeat (rw [DC_p]; simp (disch := omega) only [go_sem, seval, reduceCtorEq])
  refine WStep.ev (fun _ _ e => by cases e) (fun _ _ e => by cases e) ?_; simp (disch := omega) only [go_sem, seval, reduceCtorEq]; refine ⟨fr_o, ?_⟩; exact Ret.keep ⟨rfl, by rw [List.map_append]; rfl⟩
def c19 : AC :=
 sr [kn 1 (.bx t0), kn 2 (.al [kz, ks, ks, kz, kz, kz, .esl, .esl, kz, kz])]
 (sr [il 4 t1, ic 5 21 [t4], kn 6 (.bd [kz, ks, ks, kz, kz, kz, .esl, .esl, kz, kz] [(0, 1, t5)]), kn 3 (.al [kz, ks, ks, kz, kz, kz, .esl, .esl, kz, kz]), ke (.st t3 t6 10)]
 (.seq (.dreg [[], [0], [], [2, 1], [0, 1], [4, 1, 3, 0, 1], [0, 1, 2, 3, 4, 5], [6, 3, 5, 0, 1, 2, 3, 4, 5]] [il 7 t1, ic 8 13 [t7], il 9 t1, ic 10 13 [t9], ia 11 t3 1, ke (.st t11 t8 1), ia 12 t3 2, ke (.st t12 t10 1)])
 (.seq (.dreg [[], [0], [], [2, 1], [], [4, 3], [], [6, 5], [], [8, 7], [0, 1], [10, 1, 9, 0, 1], [0, 1, 2, 3, 10, 11], [12, 3, 11, 0, 1, 2, 3, 10, 11], [0, 1, 2, 3, 4, 5, 10, 11, 12, 13], [14, 5, 13, 0, 1, 2, 3, 4, 5, 10, 11, 12, 13], [0, 1, 2, 3, 4, 5, 6, 7, 10, 11, 12, 13, 14, 15], [16, 7, 15, 0, 1, 2, 3, 4, 5, 6, 7, 10, 11, 12, 13, 14, 15], [0, 1, 2, 3, 4, 5, 6, 7, 8, 9, 10, 11, 12, 13, 14, 15, 16, 17], [18, 9, 17, 0, 1, 2, 3, 4, 5, 6, 7, 8, 9, 10, 11, 12, 13, 14, 15, 16, 17]] [il 13 t1, ic 14 22 [t13], il 15 t1, ic 16 22 [t15], il 17 t1, ic 18 22 [t17], il 19 t1, ic 20 22 [t19], il 21 t1, ic 22 22 [t21], ia 23 t3 3, ke (.st t23 t14 1), ia 24 t3 4, ke (.st t24 t16 1), ia 25 t3 5, ke (.st t25 t18 1), ia 26 t3 8, ke (.st t26 t20 1), ia 27 t3 9, ke (.st t27 t22 1)])
 (sr [il 28 t1, kn 29 (.mkf 46 [t1, t3]), ic 30 16 [t28, t29]]
 (sr [il 31 t1, kn 32 (.mkf 47 [t1, t3]), ic 33 16 [t31, t32]]
 (sr [kn 34 (.ld t3 10 true), ke (.st t2 t34 10)]
 (.ret)))))))
def r19 : List RC := [.c 2 10 true]
theorem cc19 : cK Tryz.f19 (hhD 19) c19 := by unfold cK; kernel_rfl
theorem rr19 : resC Tryz.prog Tryz.f19 = some r19 := by kernel_rfl
theorem cl.set0 {H : List ABlk} (h : cl H) {b : Nat} {k : ABlk} (hk : k.refs = []) : cl (H.set b k) := by
 intro c j hc r hr
 rw [List.length_set]
 by_cases e : b = c
 ·subst e
  rw [List.getElem?_set_self'] at hc
  cases hb : H[b]? with
  | none => rw [hb] at hc; simp at hc
  | some i => rw [hb] at hc; simp at hc; rw [<- hc, hk] at hr; cases hr
 ·rw [getset_ne e] at hc; exact h c j hc r hr
theorem pre_out1 {H G : List ABlk} (h : ∀ c, c < H.length -> G[c]? = H[c]?) : H <+: G := by
 refine ⟨G.drop H.length, ?_⟩; have e : H = G.take H.length := List.ext_getElem? fun i => by
  rw [List.getElem?_take]
  split
  ·rename_i hi; exact (h i hi).symm
  ·rename_i hi; exact List.getElem?_eq_none (by omega)
 exact (congrArg (· ++ G.drop H.length) e).trans (List.take_append_drop _ _)
theorem Wk1.ofL : ∀ {a b : List AV}, WkL a b -> Wk1 (.agg a) (.agg b) := fun {a b} h => by
 have hl : a.length = b.length := by induction h with | nil => rfl | cons _ _ ih => simp [ih]
 refine .agg hl ?_
 induction h with
 | nil => intro i c c' h; simp at h
 | cons h1 h2 ih =>
  intro i c c' hc hc'
  cases i with
  | zero => simp at hc hc'; subst hc; subst hc'; exact h1
  | succ i => simp at hc hc'; exact ih (by simpa using hl) i c c' hc hc'
theorem GS.wk {α : Type} {s : ByteArray} {rb vb tb : Nat} {cs : AV -> List AV} {f : α -> List Dat} {ety sz : Nat} {H : List ABlk} {r : Rd} {x : AV} {l : List α} (h : GS s rb vb tb cs f ety sz H r x l) : Wk1 x (.d (.sl (l.map f))) := by
 rcases h.g with ⟨rfl, rfl⟩ | ⟨b, rfl, _⟩
 ·exact .esl
 ·exact .gsl _ _ _
theorem GS.one {α : Type} {s : ByteArray} {rb vb tb : Nat} {cs : AV -> List AV} {f : α -> List Dat} {ety sz : Nat} {H : List ABlk} {r : Rd} {x : AV} {l : List α} (h : GS s rb vb tb cs f ety sz H r x l) : Go.Proofs.YthifjndenhjobaaGreat.one x = true := by
 rcases h.g with ⟨rfl, rfl⟩ | ⟨b, rfl, _⟩ <;> rfl
theorem GS.nr {α : Type} {s : ByteArray} {rb vb tb : Nat} {cs : AV -> List AV} {f : α -> List Dat} {ety sz : Nat} {H : List ABlk} {r : Rd} {x : AV} {l : List α} (h : GS s rb vb tb cs f ety sz H r x l) : x = .esl \/ ∃ b l', x = .gsl b sz l' := by
 rcases h.g with ⟨rfl, rfl⟩ | ⟨b, rfl, _⟩
 ·exact .inl rfl
 ·exact .inr ⟨_, _, rfl⟩
theorem gets_c {s : ByteArray} (hs : s.size <= 300000) {rb : Nat} {r : Rd} {H : List ABlk} (her : H[rb]? = some (rd s r.a r.bad)) (le0 : r.a <= s.size) : ACalls Tryz.prog 19 [.ptr rb 0] H fun v H' => v = (tyF s r).1.av /\ H' = H.set rb (rd s (tyF s r).2.a (tyF s r).2.bad) := by
 refine ACalls.into Tryz.func19 cc19 rr19 fun hcl => ?_
 have l0 := (List.getElem?_eq_some_iff.1 her).1; have le1 := (byte_r s).le r le0; obtain ⟨y1, q1, e1⟩ : ∃ y q, byteF s r = (y, q) := ⟨_, _, rfl⟩; rw [e1] at le1; simp only at le1; have le2 := (text_r s).le q1 le1; obtain ⟨y2, q2, e2⟩ : ∃ y q, textF s q1 = (y, q) := ⟨_, _, rfl⟩; rw [e2] at le2; simp only at le2; have le3 := (text_r s).le q2 le2; obtain ⟨y3, q3, e3⟩ : ∃ y q, textF s q2 = (y, q) := ⟨_, _, rfl⟩; rw [e3] at le3; simp only at le3; have le4 := (num_r s).le q3 le3; obtain ⟨y4, q4, e4⟩ : ∃ y q, numF s q3 = (y, q) := ⟨_, _, rfl⟩; rw [e4] at le4; simp only at le4; have le5 := (num_r s).le q4 le4; obtain ⟨y5, q5, e5⟩ : ∃ y q, numF s q4 = (y, q) := ⟨_, _, rfl⟩; rw [e5] at le5; simp only at le5; have le6 := (num_r s).le q5 le5; obtain ⟨y6, q6, e6⟩ : ∃ y q, numF s q5 = (y, q) := ⟨_, _, rfl⟩; rw [e6] at le6; simp only at le6; have le7 := (num_r s).le q6 le6; obtain ⟨y7, q7, e7⟩ : ∃ y q, numF s q6 = (y, q) := ⟨_, _, rfl⟩; rw [e7] at le7; simp only at le7; have le8 := (num_r s).le q7 le7; obtain ⟨y8, q8, e8⟩ : ∃ y q, numF s q7 = (y, q) := ⟨_, _, rfl⟩; rw [e8] at le8; simp only at le8; have le9 := (list_r (fd_r s)).le q8 le8; obtain ⟨y9, q9, e9⟩ : ∃ y q, listF s (fdF s) q8 = (y, q) := ⟨_, _, rfl⟩; rw [e9] at le9; simp only at le9; have le10 := (list_r (pm_r s)).le q9 le9; obtain ⟨y10, q10, e10⟩ : ∃ y q, listF s (pmF s) q9 = (y, q) := ⟨_, _, rfl⟩; rw [e10] at le10; simp only at le10; have ep : tyF s r = ((⟨y1, y2, y3, y4, y5, y6, y9, y10, y7, y8⟩ : Ty), q10) := by simp only [tyF, bnd, mp, e1, e2, e3, e4, e5, e6, e7, e8, e9, e10]
 rw [ep]; clear ep; have ck1 : callOk Tryz.prog 46 = true := by kernel_rfl
 have ck2 : callOk Tryz.prog 47 = true := by kernel_rfl
 obtain ⟨B, hB⟩ : ∃ B, H.set rb (rd s q1.a q1.bad) ++ [.cells [.ptr rb 0], .cells [kz, (.d (.v (.string ⟨#[]⟩))), (.d (.v (.string ⟨#[]⟩))), kz, kz, kz, .esl, .esl, kz, kz], .cells [iv y1, (.d (.v (.string ⟨#[]⟩))), (.d (.v (.string ⟨#[]⟩))), kz, kz, kz, .esl, .esl, kz, kz]] = B := ⟨_, rfl⟩; have lH : (H.set rb (rd s q1.a q1.bad)).length = H.length := List.length_set; have lB : B.length = H.length + 3 := by rw [<- hB]; simp
 have hv : B[H.length]? = some (.cells [.ptr rb 0]) := by rw [<- hB, List.getElem?_append_right (by omega), lH, Nat.sub_self]; rfl
 have hz : B[H.length + 1]? = some (.cells [kz, (.d (.v (.string ⟨#[]⟩))), (.d (.v (.string ⟨#[]⟩))), kz, kz, kz, .esl, .esl, kz, kz]) := by rw [<- hB, List.getElem?_append_right (by omega), lH, Nat.add_sub_cancel_left]; rfl
 have ht : B[H.length + 2]? = some (.cells [iv y1, (.d (.v (.string ⟨#[]⟩))), (.d (.v (.string ⟨#[]⟩))), kz, kz, kz, .esl, .esl, kz, kz]) := by rw [<- hB, List.getElem?_append_right (by omega), lH, Nat.add_sub_cancel_left]; rfl
 have hr : B[rb]? = some (rd s q1.a q1.bad) := by rw [<- hB, List.getElem?_append_left (by omega), List.getElem?_set_self l0]
 have hbl : ∀ c, c < H.length -> c ≠ rb -> B[c]? = H[c]? := fun c hc hn => by rw [<- hB, List.getElem?_append_left (by omega), getset_ne (Ne.symm hn)]
 have l1 : rb < B.length := by omega
 have l2 : H.length < B.length := by omega
 have l3 : (H.length + 2) < B.length := by omega
 have d1 : rb ≠ H.length := by omega
 have d2 : rb ≠ (H.length + 2) := by omega
 have d3 : H.length ≠ (H.length + 2) := by omega
 have hE : HP B s rb (H.length + 2) (B.length + 5) q1 [iv y1, (.d (.v (.string ⟨#[]⟩))), (.d (.v (.string ⟨#[]⟩))), kz, kz, kz, .esl, .esl, kz, kz] .dead [] = B := hp_self hr ht (.inr (by omega)); simp (disch := omega) only [Tryz.ntmps19, c19, r19, go_sem, seval, reduceCtorEq]; refine Cont.mk (byte_c (r := r) (by rw [List.getElem?_append_left l0, her]) hs le0) ?_; rw [e1]; have hq : ∀ (X a b c : ABlk), (H.set rb X ++ [a, b, c])[H.length + 2]? = some c := fun X a b c => by rw [List.getElem?_append_right (by rw [List.length_set]; omega), List.length_set, Nat.add_sub_cancel_left]; rfl
 have hq2 : ∀ (X a b c d : ABlk), (H.set rb X ++ [a, b, c]).set (H.length + 2) d = H.set rb X ++ [a, b, d] := fun X a b c d => by rw [List.set_append_right _ _ (by rw [List.length_set]; omega), List.length_set, Nat.add_sub_cancel_left]; rfl
 simp (disch := omega) only [List.set_append_left _ _ l0, hq, hq2, hB, go_sem, seval, reduceCtorEq]; rw [<- hE]; refine W.dregD [([], []), ([rb], []), ([], [rb]), ([rb], []), ([], [rb]), ([(H.length + 2)], []), ([], []), ([(H.length + 2)], [])] follows (by decide +kernel) rfl rfl (fun z hz c hc => ?_) ?_
 ·simp only [List.mem_cons, List.not_mem_nil, or_false] at hz
  rcases hz with rfl | rfl | rfl | rfl | rfl | rfl | rfl | rfl <;> first | exact absurd hc List.not_mem_nil | (rw [List.mem_singleton.1 hc, hp_r l1 d2 (by omega)]; simp) | (rw [List.mem_singleton.1 hc, hp_t l3 (by omega)]; simp)
 repeat (rw [DC_p]; simp (disch := omega) only [hv, go_sem, seval, reduceCtorEq])
 refine WStep.call (text_c (hp_r l1 d2 (by omega)) hs le1) fr_c fr_l ?_; rw [e2]; simp (disch := omega) only [hv, kr1, go_sem, seval, reduceCtorEq]
 repeat (rw [DC_p]; simp (disch := omega) only [hv, kr1, go_sem, seval, reduceCtorEq])
 refine WStep.call (text_c (hp_r l1 d2 (by omega)) hs le2) fr_c fr_l ?_; rw [e3]; simp (disch := omega) only [hv, kr1, go_sem, seval, reduceCtorEq]
 repeat (rw [DC_p]; simp (disch := omega) only [hv, kr1, go_sem, seval, reduceCtorEq])
 refine WStep.ev (fun _ _ e => by cases e) (fun _ _ e => by cases e) ?_; simp (disch := omega) only [go_sem, seval, reduceCtorEq]; refine ⟨fr_t l3 (by omega), ?_⟩
 repeat (rw [DC_p]; simp (disch := omega) only [go_sem, seval, reduceCtorEq])
 refine WStep.ev (fun _ _ e => by cases e) (fun _ _ e => by cases e) ?_; simp (disch := omega) only [go_sem, seval, reduceCtorEq]; refine ⟨fr_t l3 (by omega), ?_⟩; refine W.dregD [([], []), ([rb], []), ([], [rb]), ([rb], []), ([], [rb, rb]), ([rb], []), ([], [rb, rb, rb]), ([rb], []), ([], [rb, rb, rb, rb]), ([rb], []), ([], [rb, rb, rb, rb]), ([(H.length + 2)], []), ([], []), ([(H.length + 2)], []), ([], []), ([(H.length + 2)], []), ([], []), ([(H.length + 2)], []), ([], []), ([(H.length + 2)], [])] follows (by decide +kernel) rfl rfl (fun z hz c hc => ?_) ?_
 ·simp only [List.mem_cons, List.not_mem_nil, or_false] at hz
  rcases hz with rfl | rfl | rfl | rfl | rfl | rfl | rfl | rfl | rfl | rfl | rfl | rfl | rfl | rfl | rfl | rfl | rfl | rfl | rfl | rfl <;> first | exact absurd hc List.not_mem_nil | (rw [List.mem_singleton.1 hc, hp_r l1 d2 (by omega)]; simp) | (rw [List.mem_singleton.1 hc, hp_t l3 (by omega)]; simp)
 repeat (rw [DC_p]; simp (disch := omega) only [hv, kr1, kr2, kr3, kr4, go_sem, seval, reduceCtorEq])
 refine WStep.call (num_c (hp_r l1 d2 (by omega)) hs le3) fr_c fr_l ?_; rw [e4]; simp (disch := omega) only [hv, kr1, kr2, kr3, kr4, go_sem, seval, reduceCtorEq]
 repeat (rw [DC_p]; simp (disch := omega) only [hv, kr1, kr2, kr3, kr4, go_sem, seval, reduceCtorEq])
 refine WStep.call (num_c (hp_r l1 d2 (by omega)) hs le4) fr_c fr_l ?_; rw [e5]; simp (disch := omega) only [hv, kr1, kr2, kr3, kr4, go_sem, seval, reduceCtorEq]
 repeat (rw [DC_p]; simp (disch := omega) only [hv, kr1, kr2, kr3, kr4, go_sem, seval, reduceCtorEq])
 refine WStep.call (num_c (hp_r l1 d2 (by omega)) hs le5) fr_c fr_l ?_; rw [e6]; simp (disch := omega) only [hv, kr1, kr2, kr3, kr4, go_sem, seval, reduceCtorEq]
 repeat (rw [DC_p]; simp (disch := omega) only [hv, kr1, kr2, kr3, kr4, go_sem, seval, reduceCtorEq])
 refine WStep.call (num_c (hp_r l1 d2 (by omega)) hs le6) fr_c fr_l ?_; rw [e7]; simp (disch := omega) only [hv, kr1, kr2, kr3, kr4, go_sem, seval, reduceCtorEq]
 repeat (rw [DC_p]; simp (disch := omega) only [hv, kr1, kr2, kr3, kr4, go_sem, seval, reduceCtorEq])
 refine WStep.call (num_c (hp_r l1 d2 (by omega)) hs le7) fr_c fr_l ?_; rw [e8]; simp (disch := omega) only [hv, kr1, kr2, kr3, kr4, go_sem, seval, reduceCtorEq]
 repeat (rw [DC_p]; simp (disch := omega) only [kr4, go_sem, seval, reduceCtorEq])
 refine WStep.ev (fun _ _ e => by cases e) (fun _ _ e => by cases e) ?_; simp (disch := omega) only [go_sem, seval, reduceCtorEq]; refine ⟨fr_t l3 (by omega), ?_⟩
 repeat (rw [DC_p]; simp (disch := omega) only [kr4, go_sem, seval, reduceCtorEq])
 refine WStep.ev (fun _ _ e => by cases e) (fun _ _ e => by cases e) ?_; simp (disch := omega) only [go_sem, seval, reduceCtorEq]; refine ⟨fr_t l3 (by omega), ?_⟩
 repeat (rw [DC_p]; simp (disch := omega) only [kr4, go_sem, seval, reduceCtorEq])
 refine WStep.ev (fun _ _ e => by cases e) (fun _ _ e => by cases e) ?_; simp (disch := omega) only [go_sem, seval, reduceCtorEq]; refine ⟨fr_t l3 (by omega), ?_⟩
 repeat (rw [DC_p]; simp (disch := omega) only [kr4, go_sem, seval, reduceCtorEq])
 refine WStep.ev (fun _ _ e => by cases e) (fun _ _ e => by cases e) ?_; simp (disch := omega) only [go_sem, seval, reduceCtorEq]; refine ⟨fr_t l3 (by omega), ?_⟩
 repeat (rw [DC_p]; simp (disch := omega) only [kr4, go_sem, seval, reduceCtorEq])
 refine WStep.ev (fun _ _ e => by cases e) (fun _ _ e => by cases e) ?_; simp (disch := omega) only [go_sem, seval, reduceCtorEq]; refine ⟨fr_t l3 (by omega), ?_⟩; have hp0 : ∀ c, c < H.length -> c ≠ rb -> (HP B s rb (H.length + 2) (B.length + 5) q8 [iv y1, sv y2, sv y3, iv y4, iv y5, iv y6, .esl, .esl, iv y7, iv y8] .dead [])[c]? = H[c]? := fun c hc hn => by rw [hp_lo (by omega) hn (by omega) (by omega), hbl c hc hn]
 have hpz : (HP B s rb (H.length + 2) (B.length + 5) q8 [iv y1, sv y2, sv y3, iv y4, iv y5, iv y6, .esl, .esl, iv y7, iv y8] .dead [])[H.length + 1]? = some (.cells [kz, (.d (.v (.string ⟨#[]⟩))), (.d (.v (.string ⟨#[]⟩))), kz, kz, kz, .esl, .esl, kz, kz]) := by rw [hp_lo (by omega) (by omega) (by omega) (by omega), hz]
 have hg1 : GS s rb H.length (H.length + 2) (fun x => [iv y1, sv y2, sv y3, iv y4, iv y5, iv y6, x, .esl, iv y7, iv y8]) Fd.c 86 3 (HP B s rb (H.length + 2) (B.length + 5) q8 [iv y1, sv y2, sv y3, iv y4, iv y5, iv y6, .esl, .esl, iv y7, iv y8] .dead []) q8 .esl [] :=
  ⟨hp_r l1 d2 (by omega), (hp_lo l2 (by omega) (by omega) (by omega)).trans hv, hp_t l3 (by omega), .inl ⟨rfl, rfl⟩, d1, d2, d3, le8, fun _ => Nat.zero_le _⟩
 have lG : (HP B s rb (H.length + 2) (B.length + 5) q8 [iv y1, sv y2, sv y3, iv y4, iv y5, iv y6, .esl, .esl, iv y7, iv y8] .dead []).length = H.length + 3 := by rw [hp_len0, lB]
 simp (disch := omega) only [hv, go_sem, seval, reduceCtorEq]; refine Cont.rel (each_c hs ck1 (fd_g (c6 := .any) hs) hg1) ?_; rintro v G1 ⟨rfl, x1, g1, k1⟩; rw [e9] at g1; simp only [List.nil_append] at g1; have g1v := g1.ev; have hg2 : GS s rb H.length (H.length + 2) (fun x => [iv y1, sv y2, sv y3, iv y4, iv y5, iv y6, x1, x, iv y7, iv y8]) Pm.c 88 2 G1 q9 .esl [] := ⟨g1.er, g1.ev, g1.et, .inl ⟨rfl, rfl⟩, d1, d2, d3, le9, fun _ => Nat.zero_le _⟩; simp (disch := omega) only [g1v, go_sem, seval, reduceCtorEq]; refine Cont.rel (each_c hs ck2 (pm_g (c7 := .any) hs) hg2) ?_; rintro v G2 ⟨rfl, x2, g2, k2⟩; rw [e10] at g2; simp only [List.nil_append] at g2; have g2r := g2.er; have g2t := g2.et; have k1l := k1.len; have k2l := k2.len; rw [lG] at k1l; have low : ∀ c, c < H.length + 2 -> c ≠ rb -> c ≠ H.length + 2 -> G2[c]? = (HP B s rb (H.length + 2) (B.length + 5) q8 [iv y1, sv y2, sv y3, iv y4, iv y5, iv y6, .esl, .esl, iv y7, iv y8] .dead [])[c]? := fun c hc h1 h2 => by
  rw [k2.out c (by omega) (by simp [GF, rowB]; omega), k1.out c (by rw [lG]; omega) (by simp [GF, rowB]; omega)]
 have g2z : G2[H.length + 1]? = some (.cells [kz, (.d (.v (.string ⟨#[]⟩))), (.d (.v (.string ⟨#[]⟩))), kz, kz, kz, .esl, .esl, kz, kz]) := by rw [low _ (by omega) (by omega) (by omega), hpz]
 have g2s : ∀ X, (G2.set (H.length + 1) X)[H.length + 1]? = some X := fun X => List.getElem?_set_self (by omega)
 have w1 := g1.wk; have w2 := g2.wk; have n1 := g1.nr; have n2 := g2.nr; clear hg1 hg2 g1 k1 g2 k2 g1v; rcases n1 with rfl | ⟨b1, m1, rfl⟩ <;> rcases n2 with rfl | ⟨b2, m2, rfl⟩
 ·simp (disch := omega) only [g2t, g2z, g2s, go_sem, seval, reduceCtorEq]
  refine Ret.pre (Ty.av ⟨y1, y2, y3, y4, y5, y6, y9, y10, y7, y8⟩) (H.set rb (rd s q10.a q10.bad)) (pre_out1 fun c hc => ?_) (by rw [List.length_set]; exact Nat.le_refl _) (cl.set0 hcl rfl) (Wk1.ofL ?_) (by simp [refs, refs.refsL, Ty.cs]) ⟨by rfl, by rfl⟩
  ·rw [List.length_set] at hc
   rw [getset_ne (by omega)]
   by_cases hcr : c = rb
   ·subst hcr
    rw [g2r, List.getElem?_set_self l0]
   ·rw [getset_ne (Ne.symm hcr), low c (by omega) hcr (by omega), hp0 c hc hcr]
  ·exact .cons (.rfl _) (.cons (.rfl _) (.cons (.rfl _) (.cons (.rfl _) (.cons (.rfl _) (.cons (.rfl _) (.cons w1 (.cons w2 (.cons (.rfl _) (.cons (.rfl _) .nil)))))))))
 ·simp (disch := omega) only [g2t, g2z, g2s, go_sem, seval, reduceCtorEq]
  refine Ret.pre (Ty.av ⟨y1, y2, y3, y4, y5, y6, y9, y10, y7, y8⟩) (H.set rb (rd s q10.a q10.bad)) (pre_out1 fun c hc => ?_) (by rw [List.length_set]; exact Nat.le_refl _) (cl.set0 hcl rfl) (Wk1.ofL ?_) (by simp [refs, refs.refsL, Ty.cs]) ⟨by rfl, by rfl⟩
  ·rw [List.length_set] at hc
   rw [getset_ne (by omega)]
   by_cases hcr : c = rb
   ·subst hcr
    rw [g2r, List.getElem?_set_self l0]
   ·rw [getset_ne (Ne.symm hcr), low c (by omega) hcr (by omega), hp0 c hc hcr]
  ·exact .cons (.rfl _) (.cons (.rfl _) (.cons (.rfl _) (.cons (.rfl _) (.cons (.rfl _) (.cons (.rfl _) (.cons w1 (.cons w2 (.cons (.rfl _) (.cons (.rfl _) .nil)))))))))
 ·simp (disch := omega) only [g2t, g2z, g2s, go_sem, seval, reduceCtorEq]
  refine Ret.pre (Ty.av ⟨y1, y2, y3, y4, y5, y6, y9, y10, y7, y8⟩) (H.set rb (rd s q10.a q10.bad)) (pre_out1 fun c hc => ?_) (by rw [List.length_set]; exact Nat.le_refl _) (cl.set0 hcl rfl) (Wk1.ofL ?_) (by simp [refs, refs.refsL, Ty.cs]) ⟨by rfl, by rfl⟩
  ·rw [List.length_set] at hc
   rw [getset_ne (by omega)]
   by_cases hcr : c = rb
   ·subst hcr
    rw [g2r, List.getElem?_set_self l0]
   ·rw [getset_ne (Ne.symm hcr), low c (by omega) hcr (by omega), hp0 c hc hcr]
  ·exact .cons (.rfl _) (.cons (.rfl _) (.cons (.rfl _) (.cons (.rfl _) (.cons (.rfl _) (.cons (.rfl _) (.cons w1 (.cons w2 (.cons (.rfl _) (.cons (.rfl _) .nil)))))))))
 ·simp (disch := omega) only [g2t, g2z, g2s, go_sem, seval, reduceCtorEq]
  refine Ret.pre (Ty.av ⟨y1, y2, y3, y4, y5, y6, y9, y10, y7, y8⟩) (H.set rb (rd s q10.a q10.bad)) (pre_out1 fun c hc => ?_) (by rw [List.length_set]; exact Nat.le_refl _) (cl.set0 hcl rfl) (Wk1.ofL ?_) (by simp [refs, refs.refsL, Ty.cs]) ⟨by rfl, by rfl⟩
  ·rw [List.length_set] at hc
   rw [getset_ne (by omega)]
   by_cases hcr : c = rb
   ·subst hcr
    rw [g2r, List.getElem?_set_self l0]
   ·rw [getset_ne (Ne.symm hcr), low c (by omega) hcr (by omega), hp0 c hc hcr]
  ·exact .cons (.rfl _) (.cons (.rfl _) (.cons (.rfl _) (.cons (.rfl _) (.cons (.rfl _) (.cons (.rfl _) (.cons w1 (.cons w2 (.cons (.rfl _) (.cons (.rfl _) .nil)))))))))
end Go.Proofs.YthifjndenhjobaaGreat.Rid
