/- symfile.puts: a type's items. Printed by genS1.py. -/
import Derived.Test.YthifjndenhjobaaGreatVB5
import Derived.Test.YthifjndenhjobaaGreatVT2
import Derived.Test.YthifjndenhjobaaGreatVIF
set_option linter.unusedSectionVars false
set_option linter.unusedSimpArgs false
set_option linter.unusedVariables false
set_option maxHeartbeats 4000000
set_option maxRecDepth 20000
namespace Go.Proofs.YthifjndenhjobaaGreat.Rid
open Go.RowKit
def c39l0 : AC :=
 sr [ib 75 .lss t74 t73]
 (.seq (.cond t75 (.skip) (.exit 2))
 (.seq (.block 3 (sr [kn 76 (.ia t72 t74 2), kn 77 (.ld t76 2 true), kn 7 (.al [(.d (.v (.bool false))), kz]), ke (.st t7 t77 2)]
 (sr [im 78 t0, ia 79 t7 0, il 80 t79, ic 81 63 [t80], ic 82 40 [t78, t81]]
 (.reg [im 83 t0, ia 84 t7 1, il 85 t84, ic 86 38 [t83, t85]]))))
 (.reg [ib 87 .add t74 (kc 1), im 74 t87])))
def c39l1 : AC :=
 sr [ib 49 .lss t48 t47]
 (.seq (.cond t49 (.skip) (.exit 0))
 (.seq (.block 1 (sr [kn 50 (.ia t46 t48 3), kn 51 (.ld t50 3 true), kn 5 (.al [ks, (.d (.v (.bool false))), kz]), ke (.st t5 t51 3)]
 (sr [im 52 t0, ia 53 t5 0, il 54 t53, ic 55 36 [t52, t54]]
 (sr [im 56 t0, ia 57 t5 1, il 58 t57, ic 59 63 [t58], ic 60 40 [t56, t59]]
 (.reg [im 61 t0, ia 62 t5 2, il 63 t62, ic 64 38 [t61, t63]])))))
 (.reg [ib 65 .add t48 (kc 1), im 48 t65])))
def c39 : AC :=
 sr [kn 3 (.bx t1)]
 (sr [im 8 t0, ia 9 t3 0, il 10 t9, ic 11 40 [t8, t10]]
 (sr [im 12 t0, ia 13 t3 1, il 14 t13, ic 15 36 [t12, t14]]
 (sr [im 16 t0, ia 17 t3 2, il 18 t17, ic 19 36 [t16, t18]]
 (sr [im 20 t0, ia 21 t3 3, il 22 t21, ic 23 38 [t20, t22]]
 (sr [im 24 t0, ia 25 t3 4, il 26 t25, ic 27 38 [t24, t26]]
 (sr [im 28 t0, ia 29 t3 5, il 30 t29, ic 31 38 [t28, t30]]
 (sr [im 32 t0, ia 33 t3 8, il 34 t33, ic 35 38 [t32, t34]]
 (sr [im 36 t0, ia 37 t3 9, il 38 t37, ic 39 38 [t36, t38]]
 (sr [im 40 t0, ia 41 t3 6, il 42 t41, kn 43 (.len false t42), ic 44 38 [t40, t43]]
 (.seq (sr [ia 45 t3 6, il 46 t45, kn 47 (.len false t46), im 48 (kc 0)]
 (.block 0 (.loop c39l1)))
 (sr [im 66 t0, ia 67 t3 7, il 68 t67, kn 69 (.len false t68), ic 70 38 [t66, t69]]
 (sr [ia 71 t3 7, il 72 t71, kn 73 (.len false t72), im 74 (kc 0)]
 (.block 2 (.loop c39l0))))))))))))))
def r39 : List RC := []
def c63 : AC :=
 sr [im 2 (kc 0)]
 (.seq (sr [im 3 t0]
 (.cond t3 (sr [im 2 (kc 1)]
 (.ret)) (.skip)))
 (sr [im 2 (kc 0)]
 (.ret)))
def r63 : List RC := [.t 2]
theorem cc39 : cK Tryz.f39 (hhW 39) c39 := by unfold cK; kernel_rfl
theorem rr39 : resC Tryz.prog Tryz.f39 = some r39 := by kernel_rfl
theorem cc63 : cK Tryz.f63 (hhW 63) c63 := by unfold cK; kernel_rfl
theorem rr63 : resC Tryz.prog Tryz.f63 = some r63 := by kernel_rfl
structure It where
 kind : Nat
 n : Int
 s : ByteArray
abbrev iB (n : Int) : It := ⟨0, n, se⟩
abbrev iN (n : Int) : It := ⟨1, n, se⟩
abbrev iW (n : Int) : It := ⟨2, n, se⟩
abbrev iT (s : ByteArray) : It := ⟨3, 0, s⟩
noncomputable def itW (w : Wr) (x : It) : Wr :=
 if x.kind = 0 then putW w (byteW x.n) else if x.kind = 1 then numW w x.n else if x.kind = 2 then putW w (wordB x.n) else textW w x.s
noncomputable def itsW (w : Wr) (l : List It) : Wr := l.foldl itW w
theorem itsW_app (w : Wr) (l k : List It) : itsW w (l ++ k) = itsW (itsW w l) k := List.foldl_append
theorem itsW_1 (w : Wr) (x : It) (l : List It) : itsW w (x :: l) = itsW (itW w x) l := id rfl
theorem itsW_0 (w : Wr) : itsW w [] = w := id rfl
theorem itW_b (w : Wr) (n : Int) : itW w (iB n) = putW w (byteW n) := id rfl
theorem itW_n (w : Wr) (n : Int) : itW w (iN n) = numW w n := id rfl
theorem itW_w (w : Wr) (n : Int) : itW w (iW n) = putW w (wordB n) := id rfl
theorem itW_t (w : Wr) (s : ByteArray) : itW w (iT s) = textW w s := id rfl
def flagI (b : Bool) : Int := if b = true then 1 else 0
def fdI (f : Fd) : List It := [iT f.name, iB (flagI f.exp), iN f.typ]
def pmI (p : Pm) : List It := [iB (flagI p.var), iN p.typ]
def tyI (t : Ty) : List It := [iB t.form, iT t.mod, iT t.name, iN t.len, iN t.elem, iN t.base, iN t.result, iN t.desc, iN t.fields.length] ++ (t.fields.flatMap fdI ++ ([iN t.params.length] ++ t.params.flatMap pmI))
theorem Chg.keep {H H' : List ABlk} {F F' : List Nat} {x : Nat} (h : Chg H F H' F') (hx : x < H.length) (hn : x ∉ F) : H'[x]? = H[x]? /\ x ∉ F' /\ x < H'.length :=
 ⟨h.out x hx hn, fun hb => by rcases h.sub x hb with h' | h'; exact hn h'; omega, Nat.lt_of_lt_of_le hx h.len⟩
theorem flag_c (b : Bool) (H : List ABlk) : ACalls Tryz.prog 63 [bv b] H fun v H' => v = iv (flagI b) /\ H' = H := by
 refine ACalls.into Tryz.func63 cc63 rr63 fun hcl => ?_
 cases b <;> (
  simp (disch := omega) only [Tryz.ntmps63, c63, r63, go_sem, seval, reduceCtorEq]; exact Ret.keep ⟨rfl, rfl⟩)
theorem flat_s {α : Type} (g : α -> List It) (l : List α) {i : Nat} {x : α} (hi : l[i]? = some x) : (l.take (i + 1)).flatMap g = (l.take i).flatMap g ++ g x := by
 obtain ⟨h, rfl⟩ := List.getElem?_eq_some_iff.1 hi; rw [List.take_succ_eq_append_getElem h, List.flatMap_append]; simp
structure WG where
 i : Nat
 H : List ABlk
 x : AV
structure WS (G : List ABlk) (F : List Nat) (wb tb : Nat) (k : ABlk) (H : List ABlk) (x : AV) (w : Wr) : Prop where
 w : WrAt H wb x w
 c : Chg G F H (WF wb x)
 t : H[tb]? = some k
 n : tb ∉ WF wb x
 l : tb < H.length
theorem WS.op {G : List ABlk} {F : List Nat} {wb tb : Nat} {k : ABlk} {H H' : List ABlk} {x x' : AV} {w w' : Wr} (h : WS G F wb tb k H x w) (h1 : WrAt H' wb x' w') (h2 : Chg H (WF wb x) H' (WF wb x')) : WS G F wb tb k H' x' w' := by
 obtain ⟨a, b, c⟩ := h2.keep h.l h.n; exact ⟨h1, h.c.trans h2, a.trans h.t, b, c⟩
theorem WS.ext {G : List ABlk} {F : List Nat} {wb tb : Nat} {k : ABlk} {H : List ABlk} {x : AV} {w : Wr} (h : WS G F wb tb k H x w) (l : List ABlk) : WS G F wb tb k (H ++ l) x w :=
 ⟨h.w.ext l, h.c.trans (Chg.app l), hold h.t l, h.n, by rw [List.length_append]; have := h.l; omega⟩
theorem WS.new {G : List ABlk} {F : List Nat} {wb tb : Nat} {k : ABlk} {H : List ABlk} {x : AV} {w : Wr} (h : WS G F wb tb k H x w) (j : ABlk) : WS (H ++ [j]) (WF wb x) wb H.length j (H ++ [j]) x w :=
 ⟨h.w.ext _, .rfl', List.getElem?_concat_length, fun hb => Nat.lt_irrefl _ (h.w.lt _ hb), by simp⟩
theorem WS.back {G : List ABlk} {F : List Nat} {wb tb : Nat} {k j : ABlk} {H H' : List ABlk} {x x' : AV} {w w' : Wr} (h : WS G F wb tb k H x w) (h' : WS (H ++ [j]) (WF wb x) wb H.length j H' x' w') : WS G F wb tb k H' x' w' :=
 (h.ext [j]).op h'.w h'.c
theorem puts_c {H : List ABlk} {wb : Nat} {x : AV} {w : Wr} (h : WrAt H wb x w) (t : Ty) (hf : t.fields.length <= 9000000) (hp : t.params.length <= 9000000) : ACalls Tryz.prog 39 [.ptr wb 0, t.av] H (WOp H wb x (itsW w (tyI t))) := by
 refine ACalls.into Tryz.func39 cc39 rr39 fun hcl => ?_
 obtain ⟨H0, hH0⟩ : ∃ H0, H ++ [ABlk.cells t.cs] = H0 := ⟨_, rfl⟩; have hs0 : WS H (WF wb x) wb H.length (.cells t.cs) H0 x w := by
  rw [<- hH0]; exact ⟨h.ext _, Chg.app _, List.getElem?_concat_length, fun hb => Nat.lt_irrefl _ (h.lt _ hb), by simp⟩
 have t0 := hs0.t; simp only [Ty.cs] at hH0; rw [show (ABlk.cells t.cs) = .cells [iv t.form, sv t.mod, sv t.name, iv t.len, iv t.elem, iv t.base, fdv t.fields, pmv t.params, iv t.result, iv t.desc] from rfl] at hs0 t0; simp (disch := omega) only [Tryz.ntmps39, c39, r39, Ty.cs, hH0, t0, go_sem, seval, reduceCtorEq]; refine Cont.rel (byteW_c hs0.w _) ?_; rintro v H1 ⟨rfl, x1, w1, c1⟩; have hs1 := hs0.op w1 c1; have t1 := hs1.t; simp (disch := omega) only [t1, lnm, go_sem, seval, reduceCtorEq]; refine Cont.rel (textW_c hs1.w _) ?_; rintro v H2 ⟨rfl, x2, w2, c2⟩; have hs2 := hs1.op w2 c2; have t2 := hs2.t; simp (disch := omega) only [t2, lnm, go_sem, seval, reduceCtorEq]; refine Cont.rel (textW_c hs2.w _) ?_; rintro v H3 ⟨rfl, x3, w3, c3⟩; have hs3 := hs2.op w3 c3; have t3 := hs3.t; simp (disch := omega) only [t3, lnm, go_sem, seval, reduceCtorEq]; refine Cont.rel (numW_c hs3.w _) ?_; rintro v H4 ⟨rfl, x4, w4, c4⟩; have hs4 := hs3.op w4 c4; have t4 := hs4.t; simp (disch := omega) only [t4, lnm, go_sem, seval, reduceCtorEq]; refine Cont.rel (numW_c hs4.w _) ?_; rintro v H5 ⟨rfl, x5, w5, c5⟩; have hs5 := hs4.op w5 c5; have t5 := hs5.t; simp (disch := omega) only [t5, lnm, go_sem, seval, reduceCtorEq]; refine Cont.rel (numW_c hs5.w _) ?_; rintro v H6 ⟨rfl, x6, w6, c6⟩; have hs6 := hs5.op w6 c6; have t6 := hs6.t; simp (disch := omega) only [t6, lnm, go_sem, seval, reduceCtorEq]; refine Cont.rel (numW_c hs6.w _) ?_; rintro v H7 ⟨rfl, x7, w7, c7⟩; have hs7 := hs6.op w7 c7; have t7 := hs7.t; simp (disch := omega) only [t7, lnm, go_sem, seval, reduceCtorEq]; refine Cont.rel (numW_c hs7.w _) ?_; rintro v H8 ⟨rfl, x8, w8, c8⟩; have hs8 := hs7.op w8 c8; have t8 := hs8.t; simp (disch := omega) only [t8, lnm, go_sem, seval, reduceCtorEq]; refine Cont.rel (numW_c hs8.w _) ?_; rintro v H9 ⟨rfl, x9, w9, c9⟩; have hs9 := hs8.op w9 c9; have t9 := hs9.t; simp (disch := omega) only [t9, lnm, go_sem, seval, reduceCtorEq]; obtain ⟨S1, hS1⟩ : ∃ S1 : WG -> List AV, ∀ g, S1 g = [.ptr wb 0, .any, .any, .ptr H.length 0, .any, .any, .any, .any, .any, .any, .any, .any, .any, .any, .any, .any, .any, .any, .any, .any, .any, .any, .any, .any, .any, .any, .any, .any, .any, .any, .any, .any, .any, .any, .any, .any, .any, .any, .any, .any, .any, .any, .any, .any, .any, .any, fdv t.fields, iv t.fields.length, iv g.i] ++ List.replicate 39 .any := ⟨_, fun _ => rfl⟩; obtain ⟨W9, hW9⟩ : ∃ W, W = itsW w [iB t.form, iT t.mod, iT t.name, iN t.len, iN t.elem, iN t.base, iN t.result, iN t.desc, iN t.fields.length] := ⟨_, rfl⟩; have hS9 : WS H (WF wb x) wb H.length (.cells [iv t.form, sv t.mod, sv t.name, iv t.len, iv t.elem, iv t.base, fdv t.fields, pmv t.params, iv t.result, iv t.desc]) H9 x9 (itsW W9 ((t.fields.take 0).flatMap fdI)) := by
  rw [List.take_zero, List.flatMap_nil, itsW_0, hW9]; simp only [itsW_1, itsW_0, itW_b, itW_t, itW_n]; exact hs9
 refine W.loopG (γ := WG) (fun g => t.fields.length - g.i) S1 (fun g => g.H) (fun g => g.i <= t.fields.length /\ WS H (WF wb x) wb H.length (.cells [iv t.form, sv t.mod, sv t.name, iv t.len, iv t.elem, iv t.base, fdv t.fields, pmv t.params, iv t.result, iv t.desc]) g.H g.x (itsW W9 ((t.fields.take g.i).flatMap fdI))) ⟨0, H9, x9⟩ (Wk.slots (WkL.tw 49 (hS1 _))) ⟨Nat.zero_le _, hS9⟩ (fun g hg => ?_); obtain ⟨i, G9, y9⟩ := g; obtain ⟨hi, hI9⟩ := hg; simp only at hi hI9; have u9 := hI9.t
 by_cases hi3 : i < t.fields.length
 ·obtain ⟨e, he⟩ : ∃ e, t.fields[i]? = some e := ⟨_, gE hi3⟩
  have hia := iaA_fd (t := t.fields) (a := i) (by omega) (by omega); rw [fdAt, show ((i : Nat) : Int).toNat = i from rfl, gD, he, Option.getD_some] at hia; have hfs := flat_s fdI t.fields he; obtain ⟨G0, hG0⟩ : ∃ G0, G9 ++ [ABlk.cells [sv e.name, bv e.exp, iv e.typ]] = G0 := ⟨_, rfl⟩; have hs0 := hI9.new (.cells [sv e.name, bv e.exp, iv e.typ]); rw [hG0] at hs0; have t0 := hs0.t; have gb : ∀ k, (G9 ++ [k])[G9.length]? = some k := fun k => List.getElem?_concat_length
  have gs : ∀ k k', (G9 ++ [k]).set G9.length k' = G9 ++ [k'] := fun k k' => by rw [List.set_append_right _ _ (Nat.le_refl _), Nat.sub_self]; rfl
  simp (disch := omega) only [hS1, c39l1, hia, Fd.c, gb, gs, hG0, t0, go_sem, seval, reduceCtorEq]; refine Cont.rel (textW_c hs0.w _) ?_; rintro v H1 ⟨rfl, x1, w1, c1⟩; have hs1 := hs0.op w1 c1; have t1 := hs1.t; simp (disch := omega) only [t1, go_sem, seval, reduceCtorEq]; refine Cont.mk (flag_c _ _) ?_; simp (disch := omega) only [go_sem, seval, reduceCtorEq]; refine Cont.rel (byteW_c hs1.w _) ?_; rintro v H2 ⟨rfl, x2, w2, c2⟩; have hs2 := hs1.op w2 c2; have t2 := hs2.t; simp (disch := omega) only [t2, go_sem, seval, reduceCtorEq]; refine Cont.rel (numW_c hs2.w _) ?_; rintro v H3 ⟨rfl, x3, w3, c3⟩; have hs3 := hs2.op w3 c3; have t3 := hs3.t; simp (disch := omega) only [t3, go_sem, seval, reduceCtorEq]; refine Nxt.mk ⟨i + 1, H3, x3⟩ (by show t.fields.length - (i + 1) < t.fields.length - i; omega) (Wk.slots (WkL.tw 49 (hS1 _))) ⟨hi3, ?_⟩
  show WS _ _ _ _ _ H3 x3 (itsW W9 ((t.fields.take (i + 1)).flatMap fdI))
  rw [hfs, itsW_app]; have hb := hs3; exact hI9.back (by rw [<- hG0] at hb; exact hb)
 have hin : i = t.fields.length := by omega
 subst hin; rw [List.take_length] at hI9; simp (disch := omega) only [hS1, c39l1, u9, lnm, go_sem, seval, reduceCtorEq]; have hs9 := hI9; refine Cont.rel (numW_c hs9.w _) ?_; rintro v H10 ⟨rfl, x10, w10, c10⟩; have hs10 := hs9.op w10 c10; have t10 := hs10.t; simp (disch := omega) only [t10, lnm, go_sem, seval, reduceCtorEq]; obtain ⟨S2, hS2⟩ : ∃ S2 : WG -> List AV, ∀ g, S2 g = [.ptr wb 0, .any, .any, .ptr H.length 0, .any, .any, .any, .any, .any, .any, .any, .any, .any, .any, .any, .any, .any, .any, .any, .any, .any, .any, .any, .any, .any, .any, .any, .any, .any, .any, .any, .any, .any, .any, .any, .any, .any, .any, .any, .any, .any, .any, .any, .any, .any, .any, .any, .any, .any, .any, .any, .any, .any, .any, .any, .any, .any, .any, .any, .any, .any, .any, .any, .any, .any, .any, .any, .any, .any, .any, .any, .any, pmv t.params, iv t.params.length, iv g.i] ++ List.replicate 13 .any := ⟨_, fun _ => rfl⟩; obtain ⟨W10, hW10⟩ : ∃ W, W = itsW (itsW W9 (t.fields.flatMap fdI)) [iN t.params.length] := ⟨_, rfl⟩; have hS10 : WS H (WF wb x) wb H.length (.cells [iv t.form, sv t.mod, sv t.name, iv t.len, iv t.elem, iv t.base, fdv t.fields, pmv t.params, iv t.result, iv t.desc]) H10 x10 (itsW W10 ((t.params.take 0).flatMap pmI)) := by
  rw [List.take_zero, List.flatMap_nil, itsW_0, hW10]; simp only [itsW_1, itsW_0, itW_b, itW_t, itW_n]; exact hs10
 refine W.loopG (γ := WG) (fun g => t.params.length - g.i) S2 (fun g => g.H) (fun g => g.i <= t.params.length /\ WS H (WF wb x) wb H.length (.cells [iv t.form, sv t.mod, sv t.name, iv t.len, iv t.elem, iv t.base, fdv t.fields, pmv t.params, iv t.result, iv t.desc]) g.H g.x (itsW W10 ((t.params.take g.i).flatMap pmI))) ⟨0, H10, x10⟩ (Wk.slots (WkL.tw 75 (hS2 _))) ⟨Nat.zero_le _, hS10⟩ (fun g hg => ?_); obtain ⟨i, G10, y10⟩ := g; obtain ⟨hi, hI10⟩ := hg; simp only at hi hI10; have u10 := hI10.t
 by_cases hi3 : i < t.params.length
 ·obtain ⟨e, he⟩ : ∃ e, t.params[i]? = some e := ⟨_, gE hi3⟩
  have hia := iaA_pm (t := t.params) (a := i) (by omega) (by omega); rw [pmAt, show ((i : Nat) : Int).toNat = i from rfl, gD, he, Option.getD_some] at hia; have hfs := flat_s pmI t.params he; obtain ⟨G0, hG0⟩ : ∃ G0, G10 ++ [ABlk.cells [bv e.var, iv e.typ]] = G0 := ⟨_, rfl⟩; have hs0 := hI10.new (.cells [bv e.var, iv e.typ]); rw [hG0] at hs0; have t0 := hs0.t; have gb : ∀ k, (G10 ++ [k])[G10.length]? = some k := fun k => List.getElem?_concat_length
  have gs : ∀ k k', (G10 ++ [k]).set G10.length k' = G10 ++ [k'] := fun k k' => by rw [List.set_append_right _ _ (Nat.le_refl _), Nat.sub_self]; rfl
  simp (disch := omega) only [hS2, c39l0, hia, Pm.c, gb, gs, hG0, t0, go_sem, seval, reduceCtorEq]; refine Cont.mk (flag_c _ _) ?_; simp (disch := omega) only [go_sem, seval, reduceCtorEq]; refine Cont.rel (byteW_c hs0.w _) ?_; rintro v H1 ⟨rfl, x1, w1, c1⟩; have hs1 := hs0.op w1 c1; have t1 := hs1.t; simp (disch := omega) only [t1, go_sem, seval, reduceCtorEq]; refine Cont.rel (numW_c hs1.w _) ?_; rintro v H2 ⟨rfl, x2, w2, c2⟩; have hs2 := hs1.op w2 c2; have t2 := hs2.t; simp (disch := omega) only [t2, go_sem, seval, reduceCtorEq]; refine Nxt.mk ⟨i + 1, H2, x2⟩ (by show t.params.length - (i + 1) < t.params.length - i; omega) (Wk.slots (WkL.tw 75 (hS2 _))) ⟨hi3, ?_⟩
  show WS _ _ _ _ _ H2 x2 (itsW W10 ((t.params.take (i + 1)).flatMap pmI))
  rw [hfs, itsW_app]; have hb := hs2; exact hI10.back (by rw [<- hG0] at hb; exact hb)
 have hin : i = t.params.length := by omega
 subst hin; rw [List.take_length] at hI10; simp (disch := omega) only [hS2, c39l0, u10, lnm, go_sem, seval, reduceCtorEq]; refine Ret.keep ⟨rfl, y10, ?_, hI10.c⟩; have hw := hI10.w; rw [hW10, hW9, <- itsW_app, <- itsW_app, <- itsW_app] at hw; rw [tyI]
 simpa only [List.append_assoc] using hw
def c41 : AC :=
 sr [kn 1 (.bx t0), im 2 (kc 0)]
 (.seq (sr [ia 3 t1 0, il 4 t3, ib 5 .eql t4 (kc 4)]
 (.cond t5 (sr [ia 6 t1 1, il 7 t6, kn 8 (.cvi .u32 t7), ic 9 64 [t8], im 2 t9]
 (.ret)) (.skip)))
 (sr [ia 10 t1 1, il 11 t10, im 2 t11]
 (.ret)))
def r41 : List RC := [.t 2]
def c64 : AC :=
 sr [im 2 (kc 0)]
 (sr [im 3 t0, kn 4 (.cvi .i32 t3), kn 5 (.cvi .i64 t4), im 2 t5]
 (.ret))
def r64 : List RC := [.t 2]
theorem cc41 : cK Tryz.f41 (hhW 41) c41 := by unfold cK; kernel_rfl
theorem rr41 : resC Tryz.prog Tryz.f41 = some r41 := by kernel_rfl
theorem cc64 : cK Tryz.f64 (hhW 64) c64 := by unfold cK; kernel_rfl
theorem rr64 : resC Tryz.prog Tryz.f64 = some r64 := by kernel_rfl
def sg32 (n : Int) : Int := if 2147483648 <= n % 4294967296 then n % 4294967296 - 4294967296 else n % 4294967296
def numV (v : Vl) : Int := if v.form = 4 then sg32 v.n else v.n
theorem signed_c (n : Int) (h0 : 0 <= n) (h1 : n < 4294967296) (H : List ABlk) : ACalls Tryz.prog 64 [wv n] H fun v H' => v = iv (sg32 n) /\ H' = H := by
 refine ACalls.into Tryz.func64 cc64 rr64 fun hcl => ?_
 have e1 : IntKind.i32.wrap n = sg32 n := by
  by_cases h : 2147483648 <= n % 4294967296
  ·rw [sg32, if_pos h]; simp [IntKind.wrap, IntKind.bits, IntKind.signed, h]
  ·rw [sg32, if_neg h]; simp [IntKind.wrap, IntKind.bits, IntKind.signed, h]
 have e2 : IntKind.i64.wrap (sg32 n) = sg32 n := w_i64 (by unfold sg32; split <;> omega) (by unfold sg32; split <;> omega); simp (disch := omega) only [Tryz.ntmps64, c64, r64, e1, e2, go_sem, seval, reduceCtorEq]; exact Ret.keep ⟨rfl, rfl⟩
theorem number_c (v : Vl) (H : List ABlk) : ACalls Tryz.prog 41 [v.av] H fun u H' => u = iv (numV v) /\ H' = H := by
 refine ACalls.into Tryz.func41 cc41 rr41 fun hcl => ?_
 by_cases h : v.form = 4
 ·have e1 : IntKind.u32.wrap v.n = v.n % 4294967296 := by simp [IntKind.wrap, IntKind.bits, IntKind.signed]
  have e2 : sg32 (v.n % 4294967296) = sg32 v.n := by unfold sg32; rw [show v.n % 4294967296 % 4294967296 = v.n % 4294967296 by omega]
  simp (disch := omega) only [Tryz.ntmps41, c41, r41, decide_eq_true h, e1, go_sem, seval, reduceCtorEq]; refine Cont.mk (signed_c _ (by omega) (by omega) _) ?_; simp (disch := omega) only [go_sem, seval, reduceCtorEq]; exact Ret.pre _ H (List.prefix_append _ _) (Nat.le_refl _) hcl (.rfl _) (by simp [refs]) ⟨by rw [numV, if_pos h, e2], rfl⟩
 ·simp (disch := omega) only [Tryz.ntmps41, c41, r41, decide_eq_false h, go_sem, seval, reduceCtorEq]
  exact Ret.pre _ H (List.prefix_append _ _) (Nat.le_refl _) hcl (.rfl _) (by simp [refs]) ⟨by rw [numV, if_neg h], rfl⟩
def usI (u : Us) : List It := [iT u.name, iW u.key]
def obI (o : Ob) : List It := [iB o.cls, iT o.name, iN o.typ, iB o.val.form, iN (numV o.val), iT o.val.text, iN o.n]
def encI (f : Fc) : List It := [iT ⟨#[83, 80, 83, 89]⟩, iT f.name, iW f.key, iN f.uses.length] ++ (f.uses.flatMap usI ++ ([iN (f.types.drop 7).length] ++ ((f.types.drop 7).flatMap tyI ++ ([iN f.objs.length] ++ f.objs.flatMap obI))))
abbrev w0 : Wr := ⟨[], false, false⟩
def endW (w : Wr) : List AV := if w.sp = true then [sv nl, iv 1] else if w.tl = true then [sv nl, iv 2] else [sv ⟨w.bs.toArray⟩, iv 0]
theorem encode_yes {f : Fc} (hf : FIn f) (hs : Small f.types) (hF : FaceP f) (hk : 0 <= f.key /\ f.key < 4294967296) (huk : ∀ u ∈ f.uses, 0 <= u.key /\ u.key < 4294967296) (H : List ABlk) : ACalls Tryz.prog 8 [f.av] H fun v H' => v = .tup (endW (itsW w0 (encI f))) /\ H' = H := by
 refine ACalls.into Tryz.func8 cc8 rr8 fun hcl => ?_
 have hus := hF.us; have hos := hF.os; have h7 := hF.ty.len; simp (disch := omega) only [Tryz.ntmps8, c8, r8, Fc.cs, go_sem, seval, reduceCtorEq]; refine Cont.mk (igood16_c hf hs _) ?_; rw [cdec_t hF]; simp (disch := omega) only [go_sem, seval, reduceCtorEq]; refine Cont.mk (write_c _) ?_; obtain ⟨K, hK⟩ : ∃ K, H ++ [ABlk.cells [sv f.name, wv f.key, usv f.uses, tv f.types, obv f.objs], .cells [.esl, bv false, bv false]] = K := ⟨_, rfl⟩; have k0 : K[H.length]? = some (.cells [sv f.name, wv f.key, usv f.uses, tv f.types, obv f.objs]) := by rw [<- hK, List.getElem?_append_right (Nat.le_refl _), Nat.sub_self]; rfl
 have hK' : (H ++ [ABlk.cells [sv f.name, wv f.key, usv f.uses, tv f.types, obv f.objs]]) ++ [.cells [.esl, bv false, bv false]] = K := by rw [<- hK, List.append_assoc]; rfl
 have hw0 := WrAt.new (H ++ [ABlk.cells [sv f.name, wv f.key, usv f.uses, tv f.types, obv f.objs]]); rw [hK', List.length_append, List.length_singleton] at hw0; have lK : K.length = H.length + 2 := by rw [<- hK]; simp
 have hs0 : WS K (WF (H.length + 1) .esl) (H.length + 1) H.length (.cells [sv f.name, wv f.key, usv f.uses, tv f.types, obv f.objs]) K .esl w0 :=
  ⟨hw0, .rfl', k0, by simp [WF, rowB], by omega⟩
 have t0 := hs0.t; simp (disch := omega) only [hK, t0, go_sem, seval, reduceCtorEq]; refine Cont.rel (textW_c hs0.w _) ?_; rintro v H1 ⟨rfl, x1, w1, c1⟩; have hs1 := hs0.op w1 c1; have t1 := hs1.t; simp (disch := omega) only [t1, lnm, go_sem, seval, reduceCtorEq]; refine Cont.rel (textW_c hs1.w _) ?_; rintro v H2 ⟨rfl, x2, w2, c2⟩; have hs2 := hs1.op w2 c2; have t2 := hs2.t; simp (disch := omega) only [t2, lnm, go_sem, seval, reduceCtorEq]; refine Cont.rel (wordW_c hs2.w _ hk.1 hk.2) ?_; rintro v H3 ⟨rfl, x3, w3, c3⟩; have hs3 := hs2.op w3 c3; have t3 := hs3.t; simp (disch := omega) only [t3, lnm, go_sem, seval, reduceCtorEq]; refine Cont.rel (numW_c hs3.w _) ?_; rintro v H4 ⟨rfl, x4, w4, c4⟩; have hs4 := hs3.op w4 c4; have t4 := hs4.t; simp (disch := omega) only [t4, lnm, go_sem, seval, reduceCtorEq]; obtain ⟨S1, hS1⟩ : ∃ S1 : WG -> List AV, ∀ g, S1 g = [.any, .ptr H.length 0, .any, .any, .ptr (H.length + 1) 0, .any, .any, .any, .any, .any, .any, .any, .any, .any, .any, .any, .any, .any, .any, .any, .any, .any, .any, .any, .any, .any, .any, .any, .any, .any, .any, .any, usv f.uses, iv f.uses.length, iv g.i] ++ List.replicate 77 .any := ⟨_, fun _ => rfl⟩; obtain ⟨W4, hW4⟩ : ∃ W, W = itsW w0 [iT ⟨#[83, 80, 83, 89]⟩, iT f.name, iW f.key, iN f.uses.length] := ⟨_, rfl⟩; have hS4 : WS K (WF (H.length + 1) .esl) (H.length + 1) H.length (.cells [sv f.name, wv f.key, usv f.uses, tv f.types, obv f.objs]) H4 x4 (itsW W4 ((f.uses.take 0).flatMap usI)) := by
  rw [List.take_zero, List.flatMap_nil, itsW_0, hW4]; simp only [itsW_1, itsW_0, itW_b, itW_t, itW_n, itW_w]; exact hs4
 refine W.loopG (γ := WG) (fun g => f.uses.length - g.i) S1 (fun g => g.H) (fun g => g.i <= f.uses.length /\ WS K (WF (H.length + 1) .esl) (H.length + 1) H.length (.cells [sv f.name, wv f.key, usv f.uses, tv f.types, obv f.objs]) g.H g.x (itsW W4 ((f.uses.take g.i).flatMap usI))) ⟨0, H4, x4⟩ (Wk.slots (WkL.tw 35 (hS1 _))) ⟨Nat.zero_le _, hS4⟩ (fun g hg => ?_); obtain ⟨i, G4, y4⟩ := g; obtain ⟨hi, hI4⟩ := hg; simp only at hi hI4; have u4 := hI4.t
 by_cases hi3 : i < f.uses.length
 ·obtain ⟨e, he⟩ : ∃ e, f.uses[i]? = some e := ⟨_, gE hi3⟩
  have hem : e ∈ f.uses := List.mem_of_getElem? he; have hia := iaA_us (t := f.uses) (a := i) (by omega) (by omega); rw [usAt, show ((i : Nat) : Int).toNat = i from rfl, gD, he, Option.getD_some] at hia; have hfs := flat_s usI f.uses he; obtain ⟨G0, hG0⟩ : ∃ G0, G4 ++ [ABlk.cells [sv e.name, wv e.key]] = G0 := ⟨_, rfl⟩; have hs0 := hI4.new (.cells [sv e.name, wv e.key]); rw [hG0] at hs0; have t0 := hs0.t; have gb : ∀ k, (G4 ++ [k])[G4.length]? = some k := fun k => List.getElem?_concat_length
  have gs : ∀ k k', (G4 ++ [k]).set G4.length k' = G4 ++ [k'] := fun k k' => by rw [List.set_append_right _ _ (Nat.le_refl _), Nat.sub_self]; rfl
  have hke := huk e hem; simp (disch := omega) only [hS1, c8l2, hia, Us.c, gb, gs, hG0, t0, go_sem, seval, reduceCtorEq]; refine Cont.rel (textW_c hs0.w _) ?_; rintro v H1 ⟨rfl, x1, w1, c1⟩; have hs1 := hs0.op w1 c1; have t1 := hs1.t; simp (disch := omega) only [t1, go_sem, seval, reduceCtorEq]; refine Cont.rel (wordW_c hs1.w _ hke.1 hke.2) ?_; rintro v H2 ⟨rfl, x2, w2, c2⟩; have hs2 := hs1.op w2 c2; have t2 := hs2.t; simp (disch := omega) only [t2, go_sem, seval, reduceCtorEq]; refine Nxt.mk ⟨i + 1, H2, x2⟩ (by show f.uses.length - (i + 1) < f.uses.length - i; omega) (Wk.slots (WkL.tw 35 (hS1 _))) ⟨hi3, ?_⟩
  show WS _ _ _ _ _ H2 x2 (itsW W4 ((f.uses.take (i + 1)).flatMap usI))
  rw [hfs, itsW_app]; have hb := hs2; exact hI4.back (by rw [<- hG0] at hb; exact hb)
 have hin : i = f.uses.length := by omega
 subst hin; rw [List.take_length] at hI4; simp (disch := omega) only [hS1, c8l2, u4, lnm, go_sem, seval, reduceCtorEq]; obtain ⟨tl, htl⟩ : ∃ tl, f.types.drop 7 = tl := ⟨_, rfl⟩; have a10 : ((f.types.map Ty.c).all fun e => e.length == 10) = true := all_map Ty.c 10 (fun _ => rfl) _; have dr : List.take (f.types.length - 7) (List.drop 7 (f.types.map Ty.c)) = tl.map Ty.c := by rw [<- List.map_drop, htl, List.take_of_length_le (by rw [lnm, <- htl, List.length_drop]; omega)]
 have ltl : tl.length <= 256 := by rw [<- htl, List.length_drop]; omega
 have hts : ∀ e ∈ tl, e.fields.length <= 9000000 /\ e.params.length <= 9000000 := fun e he => by
  have := hs.2 e (List.mem_of_mem_drop (by rw [htl]; exact he)); omega
 have hs4 := hI4; simp (disch := omega) only [a10, dr, lnm, go_sem, seval, reduceCtorEq]; refine Cont.rel (numW_c hs4.w _) ?_; rintro v H5 ⟨rfl, x5, w5, c5⟩; have hs5 := hs4.op w5 c5; have t5 := hs5.t; simp (disch := omega) only [t5, lnm, go_sem, seval, reduceCtorEq]; obtain ⟨S2, hS2⟩ : ∃ S2 : WG -> List AV, ∀ g, S2 g = [.any, .ptr H.length 0, .any, .any, .ptr (H.length + 1) 0, .any, .any, .any, .any, .any, .any, .any, .any, .any, .any, .any, .any, .any, .any, .any, .any, .any, .any, .any, .any, .any, .any, .any, .any, .any, .any, .any, .any, .any, .any, .any, .any, .any, .any, .any, .any, .any, .any, .any, .any, .any, .any, .any, .any, .any, .any, .any, .any, .any, tv tl, iv tl.length, iv g.i] ++ List.replicate 55 .any := ⟨_, fun _ => rfl⟩; obtain ⟨W5, hW5⟩ : ∃ W, W = itsW (itsW W4 (f.uses.flatMap usI)) [iN tl.length] := ⟨_, rfl⟩; have hS5 : WS K (WF (H.length + 1) .esl) (H.length + 1) H.length (.cells [sv f.name, wv f.key, usv f.uses, tv f.types, obv f.objs]) H5 x5 (itsW W5 ((tl.take 0).flatMap tyI)) := by
  rw [List.take_zero, List.flatMap_nil, itsW_0, hW5]; simp only [itsW_1, itsW_0, itW_b, itW_t, itW_n, itW_w]; exact hs5
 refine W.loopG (γ := WG) (fun g => tl.length - g.i) S2 (fun g => g.H) (fun g => g.i <= tl.length /\ WS K (WF (H.length + 1) .esl) (H.length + 1) H.length (.cells [sv f.name, wv f.key, usv f.uses, tv f.types, obv f.objs]) g.H g.x (itsW W5 ((tl.take g.i).flatMap tyI))) ⟨0, H5, x5⟩ (Wk.slots (WkL.tw 57 (hS2 _))) ⟨Nat.zero_le _, hS5⟩ (fun g hg => ?_); obtain ⟨i, G5, y5⟩ := g; obtain ⟨hi, hI5⟩ := hg; simp only at hi hI5; have u5 := hI5.t
 by_cases hi3 : i < tl.length
 ·obtain ⟨e, he⟩ : ∃ e, tl[i]? = some e := ⟨_, gE hi3⟩
  have hem : e ∈ tl := List.mem_of_getElem? he; have hia := iaA_ty (t := tl) (a := i) (by omega) (by omega); rw [tyAt, show ((i : Nat) : Int).toNat = i from rfl, gD, he, Option.getD_some] at hia; have hfs := flat_s tyI tl he; obtain ⟨G0, hG0⟩ : ∃ G0, G5 ++ [ABlk.cells [iv e.form, sv e.mod, sv e.name, iv e.len, iv e.elem, iv e.base, fdv e.fields, pmv e.params, iv e.result, iv e.desc]] = G0 := ⟨_, rfl⟩; have hs0 := hI5.new (.cells [iv e.form, sv e.mod, sv e.name, iv e.len, iv e.elem, iv e.base, fdv e.fields, pmv e.params, iv e.result, iv e.desc]); rw [hG0] at hs0; have t0 := hs0.t; have gb : ∀ k, (G5 ++ [k])[G5.length]? = some k := fun k => List.getElem?_concat_length
  have gs : ∀ k k', (G5 ++ [k]).set G5.length k' = G5 ++ [k'] := fun k k' => by rw [List.set_append_right _ _ (Nat.le_refl _), Nat.sub_self]; rfl
  have hte := hts e hem; simp (disch := omega) only [hS2, c8l1, hia, Ty.c, gb, gs, hG0, t0, go_sem, seval, reduceCtorEq]; refine Cont.rel (puts_c hs0.w e hte.1 hte.2) ?_; rintro v H1 ⟨rfl, x1, w1, c1⟩; have hs1 := hs0.op w1 c1; have t1 := hs1.t; simp (disch := omega) only [t1, go_sem, seval, reduceCtorEq]; refine Nxt.mk ⟨i + 1, H1, x1⟩ (by show tl.length - (i + 1) < tl.length - i; omega) (Wk.slots (WkL.tw 57 (hS2 _))) ⟨hi3, ?_⟩
  show WS _ _ _ _ _ H1 x1 (itsW W5 ((tl.take (i + 1)).flatMap tyI))
  rw [hfs, itsW_app]; have hb := hs1; exact hI5.back (by rw [<- hG0] at hb; exact hb)
 have hin : i = tl.length := by omega
 subst hin; rw [List.take_length] at hI5; simp (disch := omega) only [hS2, c8l1, u5, lnm, go_sem, seval, reduceCtorEq]; have hs5 := hI5; refine Cont.rel (numW_c hs5.w _) ?_; rintro v H6 ⟨rfl, x6, w6, c6⟩; have hs6 := hs5.op w6 c6; have t6 := hs6.t; simp (disch := omega) only [t6, lnm, go_sem, seval, reduceCtorEq]; obtain ⟨S3, hS3⟩ : ∃ S3 : WG -> List AV, ∀ g, S3 g = [.any, .ptr H.length 0, .any, .any, .ptr (H.length + 1) 0, .any, .any, .any, .any, .any, .any, .any, .any, .any, .any, .any, .any, .any, .any, .any, .any, .any, .any, .any, .any, .any, .any, .any, .any, .any, .any, .any, .any, .any, .any, .any, .any, .any, .any, .any, .any, .any, .any, .any, .any, .any, .any, .any, .any, .any, .any, .any, .any, .any, .any, .any, .any, .any, .any, .any, .any, .any, .any, .any, .any, .any, .any, .any, .any, .any, obv f.objs, iv f.objs.length, iv g.i] ++ List.replicate 39 .any := ⟨_, fun _ => rfl⟩; obtain ⟨W6, hW6⟩ : ∃ W, W = itsW (itsW W5 (tl.flatMap tyI)) [iN f.objs.length] := ⟨_, rfl⟩; have hS6 : WS K (WF (H.length + 1) .esl) (H.length + 1) H.length (.cells [sv f.name, wv f.key, usv f.uses, tv f.types, obv f.objs]) H6 x6 (itsW W6 ((f.objs.take 0).flatMap obI)) := by
  rw [List.take_zero, List.flatMap_nil, itsW_0, hW6]; simp only [itsW_1, itsW_0, itW_b, itW_t, itW_n, itW_w]; exact hs6
 refine W.loopG (γ := WG) (fun g => f.objs.length - g.i) S3 (fun g => g.H) (fun g => g.i <= f.objs.length /\ WS K (WF (H.length + 1) .esl) (H.length + 1) H.length (.cells [sv f.name, wv f.key, usv f.uses, tv f.types, obv f.objs]) g.H g.x (itsW W6 ((f.objs.take g.i).flatMap obI))) ⟨0, H6, x6⟩ (Wk.slots (WkL.tw 73 (hS3 _))) ⟨Nat.zero_le _, hS6⟩ (fun g hg => ?_); obtain ⟨i, G6, y6⟩ := g; obtain ⟨hi, hI6⟩ := hg; simp only at hi hI6; have u6 := hI6.t
 by_cases hi3 : i < f.objs.length
 ·obtain ⟨e, he⟩ : ∃ e, f.objs[i]? = some e := ⟨_, gE hi3⟩
  have hem : e ∈ f.objs := List.mem_of_getElem? he; have hia := iaA_ob (t := f.objs) (a := i) (by omega) (by omega); rw [obAt, show ((i : Nat) : Int).toNat = i from rfl, gD, he, Option.getD_some] at hia; have hfs := flat_s obI f.objs he; obtain ⟨G0, hG0⟩ : ∃ G0, G6 ++ [ABlk.cells [iv e.cls, sv e.name, iv e.typ, iv e.val.form, iv e.val.n, sv e.val.text, iv e.n]] = G0 := ⟨_, rfl⟩; have hs0 := hI6.new (.cells [iv e.cls, sv e.name, iv e.typ, iv e.val.form, iv e.val.n, sv e.val.text, iv e.n]); rw [hG0] at hs0; have t0 := hs0.t; have gb : ∀ k, (G6 ++ [k])[G6.length]? = some k := fun k => List.getElem?_concat_length
  have gs : ∀ k k', (G6 ++ [k]).set G6.length k' = G6 ++ [k'] := fun k k' => by rw [List.set_append_right _ _ (Nat.le_refl _), Nat.sub_self]; rfl
  simp (disch := omega) only [hS3, c8l0, hia, Ob.c, gb, gs, hG0, t0, go_sem, seval, reduceCtorEq]; refine Cont.rel (byteW_c hs0.w _) ?_; rintro v H1 ⟨rfl, x1, w1, c1⟩; have hs1 := hs0.op w1 c1; have t1 := hs1.t; simp (disch := omega) only [t1, go_sem, seval, reduceCtorEq]; refine Cont.rel (textW_c hs1.w _) ?_; rintro v H2 ⟨rfl, x2, w2, c2⟩; have hs2 := hs1.op w2 c2; have t2 := hs2.t; simp (disch := omega) only [t2, go_sem, seval, reduceCtorEq]; refine Cont.rel (numW_c hs2.w _) ?_; rintro v H3 ⟨rfl, x3, w3, c3⟩; have hs3 := hs2.op w3 c3; have t3 := hs3.t; simp (disch := omega) only [t3, go_sem, seval, reduceCtorEq]; refine Cont.rel (byteW_c hs3.w _) ?_; rintro v H4 ⟨rfl, x4, w4, c4⟩; have hs4 := hs3.op w4 c4; have t4 := hs4.t; simp (disch := omega) only [t4, go_sem, seval, reduceCtorEq]; refine Cont.mk (number_c e.val _) ?_; simp (disch := omega) only [go_sem, seval, reduceCtorEq]; refine Cont.rel (numW_c hs4.w _) ?_; rintro v H5 ⟨rfl, x5, w5, c5⟩; have hs5 := hs4.op w5 c5; have t5 := hs5.t; simp (disch := omega) only [t5, go_sem, seval, reduceCtorEq]; refine Cont.rel (textW_c hs5.w _) ?_; rintro v H6 ⟨rfl, x6, w6, c6⟩; have hs6 := hs5.op w6 c6; have t6 := hs6.t; simp (disch := omega) only [t6, go_sem, seval, reduceCtorEq]; refine Cont.rel (numW_c hs6.w _) ?_; rintro v H7 ⟨rfl, x7, w7, c7⟩; have hs7 := hs6.op w7 c7; have t7 := hs7.t; simp (disch := omega) only [t7, go_sem, seval, reduceCtorEq]; refine Nxt.mk ⟨i + 1, H7, x7⟩ (by show f.objs.length - (i + 1) < f.objs.length - i; omega) (Wk.slots (WkL.tw 73 (hS3 _))) ⟨hi3, ?_⟩
  show WS _ _ _ _ _ H7 x7 (itsW W6 ((f.objs.take (i + 1)).flatMap obI))
  rw [hfs, itsW_app]; have hb := hs7; exact hI6.back (by rw [<- hG0] at hb; exact hb)
 have hin : i = f.objs.length := by omega
 subst hin; rw [List.take_length] at hI6; simp (disch := omega) only [hS3, c8l0, u6, lnm, go_sem, seval, reduceCtorEq]; refine Cont.mk (bytesW_c hI6.w) ?_; have hend : itsW W6 (f.objs.flatMap obI) = itsW w0 (encI f) := by
  rw [hW6, hW5, hW4]; simp only [<- itsW_app, encI, htl, apS]
 rw [hend]; have hpre : H <+: G6 := by
  refine pre_of (by have := hI6.c.len; omega) fun b hb => ?_
  have e1 : b ∉ WF (H.length + 1) AV.esl := by simp [WF, rowB]; omega
  rw [hI6.c.out b (by omega) e1, <- hK, List.getElem?_append_left hb]
 have hp : (if (itsW w0 (encI f)).sp = true then [sv nl, iv 1] else if (itsW w0 (encI f)).tl = true then [sv nl, iv 2] else [sv ⟨(itsW w0 (encI f)).bs.toArray⟩, iv 0]) = endW (itsW w0 (encI f)) := rfl; rw [hp]; obtain ⟨a, b, hab⟩ : ∃ a b, endW (itsW w0 (encI f)) = [sv a, iv b] := by
  unfold endW; split
  ·exact ⟨_, _, rfl⟩
  ·split <;> exact ⟨_, _, rfl⟩
 rw [hab]; simp (disch := omega) only [go_sem, seval, reduceCtorEq]; exact Ret.pre _ H hpre (Nat.le_refl _) hcl (.rfl _) (by simp [refs, refs.refsL]) ⟨rfl, rfl⟩
end Go.Proofs.YthifjndenhjobaaGreat.Rid
