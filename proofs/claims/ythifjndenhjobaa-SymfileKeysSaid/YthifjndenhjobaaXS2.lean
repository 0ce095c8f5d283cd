/- symfile.puts: a type's items. Printed by genS1.py. -/
import Derived.Test.YthifjndenhjobaaXB4
import Derived.Test.YthifjndenhjobaaXT2
import Derived.Test.YthifjndenhjobaaXIF
namespace Go.Proofs.Ythifjndenhjobaa.Rid
set_option linter.unusedSimpArgs false
set_option linter.unusedVariables false
set_option maxRecDepth 20000
set_option maxHeartbeats 4000000
open Go.RowKit

def c56l0 : AC :=
 .seq (.reg [kn 75 (.bin .lss (.t 74) (.t 73))])
 (.seq (.cond (.t 75) (.skip) (.exit 2))
 (.seq (.block 3 (.seq (.reg [kn 76 (.ia (.t 72) (.t 74) 2), kn 77 (.ld (.t 76) 2 true), kn 7 (.al [(.d (.v (.bool false))), kz]), ke (.st (.t 7) (.t 77) 2)])
 (.seq (.reg [kn 78 (.mv (.t 0)), kn 79 (.fa (.t 7) 0), kn 80 (.ld (.t 79) 1 false), kn 81 (.call 94 [(.t 80)]), kn 82 (.call 57 [(.t 78), (.t 81)])])
 (.reg [kn 83 (.mv (.t 0)), kn 84 (.fa (.t 7) 1), kn 85 (.ld (.t 84) 1 false), kn 86 (.call 55 [(.t 83), (.t 85)])]))))
 (.reg [kn 87 (.bin .add (.t 74) (kc 1)), kn 74 (.mv (.t 87))])))

def c56l1 : AC :=
 .seq (.reg [kn 49 (.bin .lss (.t 48) (.t 47))])
 (.seq (.cond (.t 49) (.skip) (.exit 0))
 (.seq (.block 1 (.seq (.reg [kn 50 (.ia (.t 46) (.t 48) 3), kn 51 (.ld (.t 50) 3 true), kn 5 (.al [(.d (.v (.string ⟨#[]⟩))), (.d (.v (.bool false))), kz]), ke (.st (.t 5) (.t 51) 3)])
 (.seq (.reg [kn 52 (.mv (.t 0)), kn 53 (.fa (.t 5) 0), kn 54 (.ld (.t 53) 1 false), kn 55 (.call 53 [(.t 52), (.t 54)])])
 (.seq (.reg [kn 56 (.mv (.t 0)), kn 57 (.fa (.t 5) 1), kn 58 (.ld (.t 57) 1 false), kn 59 (.call 94 [(.t 58)]), kn 60 (.call 57 [(.t 56), (.t 59)])])
 (.reg [kn 61 (.mv (.t 0)), kn 62 (.fa (.t 5) 2), kn 63 (.ld (.t 62) 1 false), kn 64 (.call 55 [(.t 61), (.t 63)])])))))
 (.reg [kn 65 (.bin .add (.t 48) (kc 1)), kn 48 (.mv (.t 65))])))

def c56 : AC :=
 .seq (.reg [kn 3 (.bx (.t 1))])
 (.seq (.reg [kn 8 (.mv (.t 0)), kn 9 (.fa (.t 3) 0), kn 10 (.ld (.t 9) 1 false), kn 11 (.call 57 [(.t 8), (.t 10)])])
 (.seq (.reg [kn 12 (.mv (.t 0)), kn 13 (.fa (.t 3) 1), kn 14 (.ld (.t 13) 1 false), kn 15 (.call 53 [(.t 12), (.t 14)])])
 (.seq (.reg [kn 16 (.mv (.t 0)), kn 17 (.fa (.t 3) 2), kn 18 (.ld (.t 17) 1 false), kn 19 (.call 53 [(.t 16), (.t 18)])])
 (.seq (.reg [kn 20 (.mv (.t 0)), kn 21 (.fa (.t 3) 3), kn 22 (.ld (.t 21) 1 false), kn 23 (.call 55 [(.t 20), (.t 22)])])
 (.seq (.reg [kn 24 (.mv (.t 0)), kn 25 (.fa (.t 3) 4), kn 26 (.ld (.t 25) 1 false), kn 27 (.call 55 [(.t 24), (.t 26)])])
 (.seq (.reg [kn 28 (.mv (.t 0)), kn 29 (.fa (.t 3) 5), kn 30 (.ld (.t 29) 1 false), kn 31 (.call 55 [(.t 28), (.t 30)])])
 (.seq (.reg [kn 32 (.mv (.t 0)), kn 33 (.fa (.t 3) 8), kn 34 (.ld (.t 33) 1 false), kn 35 (.call 55 [(.t 32), (.t 34)])])
 (.seq (.reg [kn 36 (.mv (.t 0)), kn 37 (.fa (.t 3) 9), kn 38 (.ld (.t 37) 1 false), kn 39 (.call 55 [(.t 36), (.t 38)])])
 (.seq (.reg [kn 40 (.mv (.t 0)), kn 41 (.fa (.t 3) 6), kn 42 (.ld (.t 41) 1 false), kn 43 (.len false (.t 42)), kn 44 (.call 55 [(.t 40), (.t 43)])])
 (.seq (.seq (.reg [kn 45 (.fa (.t 3) 6), kn 46 (.ld (.t 45) 1 false), kn 47 (.len false (.t 46)), kn 48 (.mv (kc 0))])
 (.block 0 (.loop c56l1)))
 (.seq (.reg [kn 66 (.mv (.t 0)), kn 67 (.fa (.t 3) 7), kn 68 (.ld (.t 67) 1 false), kn 69 (.len false (.t 68)), kn 70 (.call 55 [(.t 66), (.t 69)])])
 (.seq (.reg [kn 71 (.fa (.t 3) 7), kn 72 (.ld (.t 71) 1 false), kn 73 (.len false (.t 72)), kn 74 (.mv (kc 0))])
 (.block 2 (.loop c56l0))))))))))))))
def r56 : List RC := []

def c94 : AC :=
 .seq (.reg [kn 2 (.mv (kc 0))])
 (.seq (.seq (.reg [kn 3 (.mv (.t 0))])
 (.cond (.t 3) (.seq (.reg [kn 2 (.mv (kc 1))])
 (.ret)) (.skip)))
 (.seq (.reg [kn 2 (.mv (kc 0))])
 (.ret)))
def r94 : List RC := [.t 2]

theorem cc56 : Try.f56.body.bind (comp Try.prog (hhW 56)) = some c56 := by kernel_rfl
theorem rr56 : resC Try.prog Try.f56 = some r56 := by kernel_rfl
theorem cc94 : Try.f94.body.bind (comp Try.prog (hhW 94)) = some c94 := by kernel_rfl
theorem rr94 : resC Try.prog Try.f94 = some r94 := by kernel_rfl
structure It where
 kind : Nat
 n : Int
 s : ByteArray
abbrev iB (n : Int) : It := ⟨0, n, se⟩
abbrev iN (n : Int) : It := ⟨1, n, se⟩
abbrev iW (n : Int) : It := ⟨2, n, se⟩
abbrev iT (s : ByteArray) : It := ⟨3, 0, s⟩
noncomputable def itW (w : Wr) (x : It) : Wr :=
 if x.kind = 0 then putW w (byteW x.n) else if x.kind = 1 then numW w x.n else if x.kind = 2 then putW w (wordB x.n) else textW w x.s
noncomputable def itsW (w : Wr) (l : List It) : Wr := l.foldl itW w
theorem itsW_app (w : Wr) (l k : List It) : itsW w (l ++ k) = itsW (itsW w l) k := List.foldl_append
theorem itsW_1 (w : Wr) (x : It) (l : List It) : itsW w (x :: l) = itsW (itW w x) l := id rfl
theorem itsW_0 (w : Wr) : itsW w [] = w := id rfl
theorem itW_b (w : Wr) (n : Int) : itW w (iB n) = putW w (byteW n) := id rfl
theorem itW_n (w : Wr) (n : Int) : itW w (iN n) = numW w n := id rfl
theorem itW_w (w : Wr) (n : Int) : itW w (iW n) = putW w (wordB n) := id rfl
theorem itW_t (w : Wr) (s : ByteArray) : itW w (iT s) = textW w s := id rfl
def flagI (b : Bool) : Int := if b = true then 1 else 0
def fdI (f : Fd) : List It := [iT f.name, iB (flagI f.exp), iN f.typ]
def pmI (p : Pm) : List It := [iB (flagI p.var), iN p.typ]
def tyI (t : Ty) : List It := [iB t.form, iT t.mod, iT t.name, iN t.len, iN t.elem, iN t.base, iN t.result, iN t.desc, iN t.fields.length] ++ (t.fields.flatMap fdI ++ ([iN t.params.length] ++ t.params.flatMap pmI))
theorem Chg.keep {H H' : List ABlk} {F F' : List Nat} {x : Nat} (h : Chg H F H' F') (hx : x < H.length) (hn : x ∉ F) : H'[x]? = H[x]? ∧ x ∉ F' ∧ x < H'.length :=
 ⟨h.out x hx hn, fun hb => by rcases h.sub x hb with h' | h'; exact hn h'; omega, Nat.lt_of_lt_of_le hx h.len⟩
theorem flag_c (b : Bool) (H : List ABlk) : ACalls Try.prog 94 [bv b] H fun v H' => v = iv (flagI b) ∧ H' = H := by
 refine ACalls.into Try.func94 cc94 rr94 fun hcl => ?_
 cases b <;> (
  simp (maxSteps := 2000000) (disch := omega) only [Try.ntmps94, c94, r94, go_sem, seval, reduceCtorEq]
  exact Ret.keep ⟨rfl, rfl⟩)
theorem flat_s {α : Type} (g : α → List It) (l : List α) {i : Nat} {x : α} (hi : l[i]? = some x) : (l.take (i + 1)).flatMap g = (l.take i).flatMap g ++ g x := by
 obtain ⟨h, rfl⟩ := List.getElem?_eq_some_iff.1 hi
 rw [List.take_succ_eq_append_getElem h, List.flatMap_append]; simp
structure WG where
 i : Nat
 H : List ABlk
 x : AV
structure WS (G : List ABlk) (F : List Nat) (wb tb : Nat) (k : ABlk) (H : List ABlk) (x : AV) (w : Wr) : Prop where
 w : WrAt H wb x w
 c : Chg G F H (WF wb x)
 t : H[tb]? = some k
 n : tb ∉ WF wb x
 l : tb < H.length
theorem WS.op {G : List ABlk} {F : List Nat} {wb tb : Nat} {k : ABlk} {H H' : List ABlk} {x x' : AV} {w w' : Wr} (h : WS G F wb tb k H x w) (h1 : WrAt H' wb x' w') (h2 : Chg H (WF wb x) H' (WF wb x')) : WS G F wb tb k H' x' w' := by
 obtain ⟨a, b, c⟩ := h2.keep h.l h.n
 exact ⟨h1, h.c.trans h2, a.trans h.t, b, c⟩
theorem WS.ext {G : List ABlk} {F : List Nat} {wb tb : Nat} {k : ABlk} {H : List ABlk} {x : AV} {w : Wr} (h : WS G F wb tb k H x w) (l : List ABlk) : WS G F wb tb k (H ++ l) x w :=
 ⟨h.w.ext l, h.c.trans (Chg.app l), hold h.t l, h.n, by rw [List.length_append]; have := h.l; omega⟩
theorem WS.new {G : List ABlk} {F : List Nat} {wb tb : Nat} {k : ABlk} {H : List ABlk} {x : AV} {w : Wr} (h : WS G F wb tb k H x w) (j : ABlk) : WS (H ++ [j]) (WF wb x) wb H.length j (H ++ [j]) x w :=
 ⟨h.w.ext _, .rfl', List.getElem?_concat_length, fun hb => Nat.lt_irrefl _ (h.w.lt _ hb), by simp⟩
theorem WS.back {G : List ABlk} {F : List Nat} {wb tb : Nat} {k j : ABlk} {H H' : List ABlk} {x x' : AV} {w w' : Wr} (h : WS G F wb tb k H x w) (h' : WS (H ++ [j]) (WF wb x) wb H.length j H' x' w') : WS G F wb tb k H' x' w' :=
 (h.ext [j]).op h'.w h'.c

theorem puts_c {H : List ABlk} {wb : Nat} {x : AV} {w : Wr} (h : WrAt H wb x w) (t : Ty) (hf : t.fields.length ≤ 9000000) (hp : t.params.length ≤ 9000000) : ACalls Try.prog 56 [.ptr wb 0, t.av] H (WOp H wb x (itsW w (tyI t))) := by
 refine ACalls.into Try.func56 cc56 rr56 fun hcl => ?_
 obtain ⟨H0, hH0⟩ : ∃ H0, H ++ [ABlk.cells t.cs] = H0 := ⟨_, rfl⟩
 have hs0 : WS H (WF wb x) wb H.length (.cells t.cs) H0 x w := by
  rw [← hH0]
  exact ⟨h.ext _, Chg.app _, List.getElem?_concat_length, fun hb => Nat.lt_irrefl _ (h.lt _ hb), by simp⟩
 have t0 := hs0.t
 simp only [Ty.cs] at hH0
 rw [show (ABlk.cells t.cs) = .cells [iv t.form, sv t.mod, sv t.name, iv t.len, iv t.elem, iv t.base, fdv t.fields, pmv t.params, iv t.result, iv t.desc] from rfl] at hs0 t0
 simp (maxSteps := 2000000) (disch := omega) only [Try.ntmps56, c56, r56, Ty.cs, hH0, t0, go_sem, seval, reduceCtorEq]
 refine Cont.rel (byteW_c hs0.w _) ?_
 rintro v H1 ⟨rfl, x1, w1, c1⟩
 have hs1 := hs0.op w1 c1
 have t1 := hs1.t
 simp (maxSteps := 2000000) (disch := omega) only [t1, List.length_map, go_sem, seval, reduceCtorEq]
 refine Cont.rel (textW_c hs1.w _) ?_
 rintro v H2 ⟨rfl, x2, w2, c2⟩
 have hs2 := hs1.op w2 c2
 have t2 := hs2.t
 simp (maxSteps := 2000000) (disch := omega) only [t2, List.length_map, go_sem, seval, reduceCtorEq]
 refine Cont.rel (textW_c hs2.w _) ?_
 rintro v H3 ⟨rfl, x3, w3, c3⟩
 have hs3 := hs2.op w3 c3
 have t3 := hs3.t
 simp (maxSteps := 2000000) (disch := omega) only [t3, List.length_map, go_sem, seval, reduceCtorEq]
 refine Cont.rel (numW_c hs3.w _) ?_
 rintro v H4 ⟨rfl, x4, w4, c4⟩
 have hs4 := hs3.op w4 c4
 have t4 := hs4.t
 simp (maxSteps := 2000000) (disch := omega) only [t4, List.length_map, go_sem, seval, reduceCtorEq]
 refine Cont.rel (numW_c hs4.w _) ?_
 rintro v H5 ⟨rfl, x5, w5, c5⟩
 have hs5 := hs4.op w5 c5
 have t5 := hs5.t
 simp (maxSteps := 2000000) (disch := omega) only [t5, List.length_map, go_sem, seval, reduceCtorEq]
 refine Cont.rel (numW_c hs5.w _) ?_
 rintro v H6 ⟨rfl, x6, w6, c6⟩
 have hs6 := hs5.op w6 c6
 have t6 := hs6.t
 simp (maxSteps := 2000000) (disch := omega) only [t6, List.length_map, go_sem, seval, reduceCtorEq]
 refine Cont.rel (numW_c hs6.w _) ?_
 rintro v H7 ⟨rfl, x7, w7, c7⟩
 have hs7 := hs6.op w7 c7
 have t7 := hs7.t
 simp (maxSteps := 2000000) (disch := omega) only [t7, List.length_map, go_sem, seval, reduceCtorEq]
 refine Cont.rel (numW_c hs7.w _) ?_
 rintro v H8 ⟨rfl, x8, w8, c8⟩
 have hs8 := hs7.op w8 c8
 have t8 := hs8.t
 simp (maxSteps := 2000000) (disch := omega) only [t8, List.length_map, go_sem, seval, reduceCtorEq]
 refine Cont.rel (numW_c hs8.w _) ?_
 rintro v H9 ⟨rfl, x9, w9, c9⟩
 have hs9 := hs8.op w9 c9
 have t9 := hs9.t
 simp (maxSteps := 2000000) (disch := omega) only [t9, List.length_map, go_sem, seval, reduceCtorEq]
 obtain ⟨S1, hS1⟩ : ∃ S1 : WG → List AV, ∀ g, S1 g = [.ptr wb 0, .any, .any, .ptr H.length 0, .any, .any, .any, .any, .any, .any, .any, .any, .any, .any, .any, .any, .any, .any, .any, .any, .any, .any, .any, .any, .any, .any, .any, .any, .any, .any, .any, .any, .any, .any, .any, .any, .any, .any, .any, .any, .any, .any, .any, .any, .any, .any, fdv t.fields, iv t.fields.length, iv g.i] ++ List.replicate 39 .any := ⟨_, fun _ => rfl⟩
 obtain ⟨W9, hW9⟩ : ∃ W, W = itsW w [iB t.form, iT t.mod, iT t.name, iN t.len, iN t.elem, iN t.base, iN t.result, iN t.desc, iN t.fields.length] := ⟨_, rfl⟩
 have hS9 : WS H (WF wb x) wb H.length (.cells [iv t.form, sv t.mod, sv t.name, iv t.len, iv t.elem, iv t.base, fdv t.fields, pmv t.params, iv t.result, iv t.desc]) H9 x9 (itsW W9 ((t.fields.take 0).flatMap fdI)) := by
  rw [List.take_zero, List.flatMap_nil, itsW_0, hW9]
  simp only [itsW_1, itsW_0, itW_b, itW_t, itW_n]
  exact hs9
 refine W.loopG (γ := WG) (fun g => t.fields.length - g.i) S1 (fun g => g.H) (fun g => g.i ≤ t.fields.length ∧ WS H (WF wb x) wb H.length (.cells [iv t.form, sv t.mod, sv t.name, iv t.len, iv t.elem, iv t.base, fdv t.fields, pmv t.params, iv t.result, iv t.desc]) g.H g.x (itsW W9 ((t.fields.take g.i).flatMap fdI))) ⟨0, H9, x9⟩ (Wk.slots (by rw [hS1]; exact WkL.tail 49 _ rfl (by simp only [List.take_succ_cons, List.take_zero]; repeat' first | exact WkL.nil | refine WkL.cons (Wk1.rfl _) ?_ | refine WkL.cons Wk1.esl ?_ | refine WkL.cons (Wk1.gsl _ _ _) ?_ | refine WkL.cons (Wk1.any _) ?_))) ⟨Nat.zero_le _, hS9⟩ (fun g hg => ?_)
 obtain ⟨i, G9, y9⟩ := g
 obtain ⟨hi, hI9⟩ := hg
 simp only at hi hI9
 have u9 := hI9.t
 by_cases hi3 : i < t.fields.length
 ·obtain ⟨e, he⟩ : ∃ e, t.fields[i]? = some e := ⟨_, List.getElem?_eq_getElem hi3⟩
  have hia := iaA_fd (t := t.fields) (a := i) (by omega) (by omega)
  rw [fdAt, show ((i : Nat) : Int).toNat = i from rfl, List.getD_eq_getElem?_getD, he, Option.getD_some] at hia
  have hfs := flat_s fdI t.fields he
  obtain ⟨G0, hG0⟩ : ∃ G0, G9 ++ [ABlk.cells [sv e.name, bv e.exp, iv e.typ]] = G0 := ⟨_, rfl⟩
  have hs0 := hI9.new (.cells [sv e.name, bv e.exp, iv e.typ])
  rw [hG0] at hs0
  have t0 := hs0.t
  have gb : ∀ k, (G9 ++ [k])[G9.length]? = some k := fun k => List.getElem?_concat_length
  have gs : ∀ k k', (G9 ++ [k]).set G9.length k' = G9 ++ [k'] := fun k k' => by rw [List.set_append_right _ _ (Nat.le_refl _), Nat.sub_self]; rfl
  simp (maxSteps := 2000000) (disch := omega) only [hS1, c56l1, hia, Fd.c, gb, gs, hG0, t0, go_sem, seval, reduceCtorEq]
  refine Cont.rel (textW_c hs0.w _) ?_
  rintro v H1 ⟨rfl, x1, w1, c1⟩
  have hs1 := hs0.op w1 c1
  have t1 := hs1.t
  simp (maxSteps := 2000000) (disch := omega) only [t1, go_sem, seval, reduceCtorEq]
  refine Cont.mk (flag_c _ _) ?_
  simp (maxSteps := 2000000) (disch := omega) only [go_sem, seval, reduceCtorEq]
  refine Cont.rel (byteW_c hs1.w _) ?_
  rintro v H2 ⟨rfl, x2, w2, c2⟩
  have hs2 := hs1.op w2 c2
  have t2 := hs2.t
  simp (maxSteps := 2000000) (disch := omega) only [t2, go_sem, seval, reduceCtorEq]
  refine Cont.rel (numW_c hs2.w _) ?_
  rintro v H3 ⟨rfl, x3, w3, c3⟩
  have hs3 := hs2.op w3 c3
  have t3 := hs3.t
  simp (maxSteps := 2000000) (disch := omega) only [t3, go_sem, seval, reduceCtorEq]
  refine Nxt.mk ⟨i + 1, H3, x3⟩ (by show t.fields.length - (i + 1) < t.fields.length - i; omega) (Wk.slots (by rw [hS1]; exact WkL.tail 49 _ rfl (by simp only [List.take_succ_cons, List.take_zero]; repeat' first | exact WkL.nil | refine WkL.cons (Wk1.rfl _) ?_ | refine WkL.cons Wk1.esl ?_ | refine WkL.cons (Wk1.gsl _ _ _) ?_ | refine WkL.cons (Wk1.any _) ?_))) ⟨hi3, ?_⟩
  show WS _ _ _ _ _ H3 x3 (itsW W9 ((t.fields.take (i + 1)).flatMap fdI))
  rw [hfs, itsW_app]
  have hb := hs3
  exact hI9.back (by rw [← hG0] at hb; exact hb)
 have hin : i = t.fields.length := by omega
 subst hin
 rw [List.take_length] at hI9
 simp (maxSteps := 2000000) (disch := omega) only [hS1, c56l1, u9, List.length_map, go_sem, seval, reduceCtorEq]
 have hs9 := hI9
 refine Cont.rel (numW_c hs9.w _) ?_
 rintro v H10 ⟨rfl, x10, w10, c10⟩
 have hs10 := hs9.op w10 c10
 have t10 := hs10.t
 simp (maxSteps := 2000000) (disch := omega) only [t10, List.length_map, go_sem, seval, reduceCtorEq]
 obtain ⟨S2, hS2⟩ : ∃ S2 : WG → List AV, ∀ g, S2 g = [.ptr wb 0, .any, .any, .ptr H.length 0, .any, .any, .any, .any, .any, .any, .any, .any, .any, .any, .any, .any, .any, .any, .any, .any, .any, .any, .any, .any, .any, .any, .any, .any, .any, .any, .any, .any, .any, .any, .any, .any, .any, .any, .any, .any, .any, .any, .any, .any, .any, .any, .any, .any, .any, .any, .any, .any, .any, .any, .any, .any, .any, .any, .any, .any, .any, .any, .any, .any, .any, .any, .any, .any, .any, .any, .any, .any, pmv t.params, iv t.params.length, iv g.i] ++ List.replicate 13 .any := ⟨_, fun _ => rfl⟩
 obtain ⟨W10, hW10⟩ : ∃ W, W = itsW (itsW W9 (t.fields.flatMap fdI)) [iN t.params.length] := ⟨_, rfl⟩
 have hS10 : WS H (WF wb x) wb H.length (.cells [iv t.form, sv t.mod, sv t.name, iv t.len, iv t.elem, iv t.base, fdv t.fields, pmv t.params, iv t.result, iv t.desc]) H10 x10 (itsW W10 ((t.params.take 0).flatMap pmI)) := by
  rw [List.take_zero, List.flatMap_nil, itsW_0, hW10]
  simp only [itsW_1, itsW_0, itW_b, itW_t, itW_n]
  exact hs10
 refine W.loopG (γ := WG) (fun g => t.params.length - g.i) S2 (fun g => g.H) (fun g => g.i ≤ t.params.length ∧ WS H (WF wb x) wb H.length (.cells [iv t.form, sv t.mod, sv t.name, iv t.len, iv t.elem, iv t.base, fdv t.fields, pmv t.params, iv t.result, iv t.desc]) g.H g.x (itsW W10 ((t.params.take g.i).flatMap pmI))) ⟨0, H10, x10⟩ (Wk.slots (by rw [hS2]; exact WkL.tail 75 _ rfl (by simp only [List.take_succ_cons, List.take_zero]; repeat' first | exact WkL.nil | refine WkL.cons (Wk1.rfl _) ?_ | refine WkL.cons Wk1.esl ?_ | refine WkL.cons (Wk1.gsl _ _ _) ?_ | refine WkL.cons (Wk1.any _) ?_))) ⟨Nat.zero_le _, hS10⟩ (fun g hg => ?_)
 obtain ⟨i, G10, y10⟩ := g
 obtain ⟨hi, hI10⟩ := hg
 simp only at hi hI10
 have u10 := hI10.t
 by_cases hi3 : i < t.params.length
 ·obtain ⟨e, he⟩ : ∃ e, t.params[i]? = some e := ⟨_, List.getElem?_eq_getElem hi3⟩
  have hia := iaA_pm (t := t.params) (a := i) (by omega) (by omega)
  rw [pmAt, show ((i : Nat) : Int).toNat = i from rfl, List.getD_eq_getElem?_getD, he, Option.getD_some] at hia
  have hfs := flat_s pmI t.params he
  obtain ⟨G0, hG0⟩ : ∃ G0, G10 ++ [ABlk.cells [bv e.var, iv e.typ]] = G0 := ⟨_, rfl⟩
  have hs0 := hI10.new (.cells [bv e.var, iv e.typ])
  rw [hG0] at hs0
  have t0 := hs0.t
  have gb : ∀ k, (G10 ++ [k])[G10.length]? = some k := fun k => List.getElem?_concat_length
  have gs : ∀ k k', (G10 ++ [k]).set G10.length k' = G10 ++ [k'] := fun k k' => by rw [List.set_append_right _ _ (Nat.le_refl _), Nat.sub_self]; rfl
  simp (maxSteps := 2000000) (disch := omega) only [hS2, c56l0, hia, Pm.c, gb, gs, hG0, t0, go_sem, seval, reduceCtorEq]
  refine Cont.mk (flag_c _ _) ?_
  simp (maxSteps := 2000000) (disch := omega) only [go_sem, seval, reduceCtorEq]
  refine Cont.rel (byteW_c hs0.w _) ?_
  rintro v H1 ⟨rfl, x1, w1, c1⟩
  have hs1 := hs0.op w1 c1
  have t1 := hs1.t
  simp (maxSteps := 2000000) (disch := omega) only [t1, go_sem, seval, reduceCtorEq]
  refine Cont.rel (numW_c hs1.w _) ?_
  rintro v H2 ⟨rfl, x2, w2, c2⟩
  have hs2 := hs1.op w2 c2
  have t2 := hs2.t
  simp (maxSteps := 2000000) (disch := omega) only [t2, go_sem, seval, reduceCtorEq]
  refine Nxt.mk ⟨i + 1, H2, x2⟩ (by show t.params.length - (i + 1) < t.params.length - i; omega) (Wk.slots (by rw [hS2]; exact WkL.tail 75 _ rfl (by simp only [List.take_succ_cons, List.take_zero]; repeat' first | exact WkL.nil | refine WkL.cons (Wk1.rfl _) ?_ | refine WkL.cons Wk1.esl ?_ | refine WkL.cons (Wk1.gsl _ _ _) ?_ | refine WkL.cons (Wk1.any _) ?_))) ⟨hi3, ?_⟩
  show WS _ _ _ _ _ H2 x2 (itsW W10 ((t.params.take (i + 1)).flatMap pmI))
  rw [hfs, itsW_app]
  have hb := hs2
  exact hI10.back (by rw [← hG0] at hb; exact hb)
 have hin : i = t.params.length := by omega
 subst hin
 rw [List.take_length] at hI10
 simp (maxSteps := 2000000) (disch := omega) only [hS2, c56l0, u10, List.length_map, go_sem, seval, reduceCtorEq]
 refine Ret.keep ⟨rfl, y10, ?_, hI10.c⟩
 have hw := hI10.w
 rw [hW10, hW9, ← itsW_app, ← itsW_app, ← itsW_app] at hw
 rw [tyI]
 simpa only [List.append_assoc] using hw
end Go.Proofs.Ythifjndenhjobaa.Rid

/- symfile.Encode. Printed by genS2.py. -/
namespace Go.Proofs.Ythifjndenhjobaa.Rid
set_option linter.unusedSimpArgs false
set_option linter.unusedVariables false
set_option maxRecDepth 20000
set_option maxHeartbeats 4000000
open Go.RowKit

def c58 : AC :=
 .seq (.reg [kn 1 (.bx (.t 0)), kn 2 (.mv (kc 0))])
 (.seq (.seq (.reg [kn 3 (.fa (.t 1) 0), kn 4 (.ld (.t 3) 1 false), kn 5 (.bin .eql (.t 4) (kc 4))])
 (.cond (.t 5) (.seq (.reg [kn 6 (.fa (.t 1) 1), kn 7 (.ld (.t 6) 1 false), kn 8 (.cvi .u32 (.t 7)), kn 9 (.call 95 [(.t 8)]), kn 2 (.mv (.t 9))])
 (.ret)) (.skip)))
 (.seq (.reg [kn 10 (.fa (.t 1) 1), kn 11 (.ld (.t 10) 1 false), kn 2 (.mv (.t 11))])
 (.ret)))
def r58 : List RC := [.t 2]

def c95 : AC :=
 .seq (.reg [kn 2 (.mv (kc 0))])
 (.seq (.reg [kn 3 (.mv (.t 0)), kn 4 (.cvi .i32 (.t 3)), kn 5 (.cvi .i64 (.t 4)), kn 2 (.mv (.t 5))])
 (.ret))
def r95 : List RC := [.t 2]

theorem cc58 : Try.f58.body.bind (comp Try.prog (hhW 58)) = some c58 := by kernel_rfl
theorem rr58 : resC Try.prog Try.f58 = some r58 := by kernel_rfl
theorem cc95 : Try.f95.body.bind (comp Try.prog (hhW 95)) = some c95 := by kernel_rfl
theorem rr95 : resC Try.prog Try.f95 = some r95 := by kernel_rfl
def sg32 (n : Int) : Int := if 2147483648 ≤ n % 4294967296 then n % 4294967296 - 4294967296 else n % 4294967296
def numV (v : Vl) : Int := if v.form = 4 then sg32 v.n else v.n
theorem signed_c (n : Int) (h0 : 0 ≤ n) (h1 : n < 4294967296) (H : List ABlk) : ACalls Try.prog 95 [wv n] H fun v H' => v = iv (sg32 n) ∧ H' = H := by
 refine ACalls.into Try.func95 cc95 rr95 fun hcl => ?_
 have e1 : IntKind.i32.wrap n = sg32 n := by
  by_cases h : 2147483648 ≤ n % 4294967296
  ·rw [sg32, if_pos h]; simp [IntKind.wrap, IntKind.bits, IntKind.signed, h]
  ·rw [sg32, if_neg h]; simp [IntKind.wrap, IntKind.bits, IntKind.signed, h]
 have e2 : IntKind.i64.wrap (sg32 n) = sg32 n := w_i64 (by unfold sg32; split <;> omega) (by unfold sg32; split <;> omega)
 simp (maxSteps := 2000000) (disch := omega) only [Try.ntmps95, c95, r95, e1, e2, go_sem, seval, reduceCtorEq]
 exact Ret.keep ⟨rfl, rfl⟩
theorem number_c (v : Vl) (H : List ABlk) : ACalls Try.prog 58 [v.av] H fun u H' => u = iv (numV v) ∧ H' = H := by
 refine ACalls.into Try.func58 cc58 rr58 fun hcl => ?_
 by_cases h : v.form = 4
 ·have e1 : IntKind.u32.wrap v.n = v.n % 4294967296 := by simp [IntKind.wrap, IntKind.bits, IntKind.signed]
  have e2 : sg32 (v.n % 4294967296) = sg32 v.n := by unfold sg32; rw [show v.n % 4294967296 % 4294967296 = v.n % 4294967296 by omega]
  simp (maxSteps := 2000000) (disch := omega) only [Try.ntmps58, c58, r58, decide_eq_true h, e1, go_sem, seval, reduceCtorEq]
  refine Cont.mk (signed_c _ (by omega) (by omega) _) ?_
  simp (maxSteps := 2000000) (disch := omega) only [go_sem, seval, reduceCtorEq]
  exact Ret.pre _ H (List.prefix_append _ _) (Nat.le_refl _) hcl (.rfl _) (by simp [refs]) ⟨by rw [numV, if_pos h, e2], rfl⟩
 ·simp (maxSteps := 2000000) (disch := omega) only [Try.ntmps58, c58, r58, decide_eq_false h, go_sem, seval, reduceCtorEq]
  exact Ret.pre _ H (List.prefix_append _ _) (Nat.le_refl _) hcl (.rfl _) (by simp [refs]) ⟨by rw [numV, if_neg h], rfl⟩
def usI (u : Us) : List It := [iT u.name, iW u.key]
def obI (o : Ob) : List It := [iB o.cls, iT o.name, iN o.typ, iB o.val.form, iN (numV o.val), iT o.val.text, iN o.n]
def encI (f : Fc) : List It := [iT ⟨#[83, 80, 83, 89]⟩, iT f.name, iW f.key, iN f.uses.length] ++ (f.uses.flatMap usI ++ ([iN (f.types.drop 7).length] ++ ((f.types.drop 7).flatMap tyI ++ ([iN f.objs.length] ++ f.objs.flatMap obI))))
abbrev w0 : Wr := ⟨[], false, false⟩
def endW (w : Wr) : List AV := if w.sp = true then [sv nl, iv 1] else if w.tl = true then [sv nl, iv 2] else [sv ⟨w.bs.toArray⟩, iv 0]

theorem encode_yes {f : Fc} (hf : FIn f) (hs : Small f.types) (hF : FaceP f) (hk : 0 ≤ f.key ∧ f.key < 4294967296) (huk : ∀ u ∈ f.uses, 0 ≤ u.key ∧ u.key < 4294967296) (H : List ABlk) : ACalls Try.prog 27 [f.av] H fun v H' => v = .tup (endW (itsW w0 (encI f))) ∧ H' = H := by
 refine ACalls.into Try.func27 cc27 rr27 fun hcl => ?_
 have hus := hF.us
 have hos := hF.os
 have h7 := hF.ty.len
 simp (maxSteps := 2000000) (disch := omega) only [Try.ntmps27, c27, r27, Fc.cs, go_sem, seval, reduceCtorEq]
 refine Cont.mk (igood16_c hf hs _) ?_
 rw [cdec_t hF]
 simp (maxSteps := 2000000) (disch := omega) only [go_sem, seval, reduceCtorEq]
 refine Cont.mk (write_c _) ?_
 obtain ⟨K, hK⟩ : ∃ K, H ++ [ABlk.cells [sv f.name, wv f.key, usv f.uses, tv f.types, obv f.objs], .cells [.esl, bv false, bv false]] = K := ⟨_, rfl⟩
 have k0 : K[H.length]? = some (.cells [sv f.name, wv f.key, usv f.uses, tv f.types, obv f.objs]) := by rw [← hK, List.getElem?_append_right (Nat.le_refl _), Nat.sub_self]; rfl
 have hK' : (H ++ [ABlk.cells [sv f.name, wv f.key, usv f.uses, tv f.types, obv f.objs]]) ++ [.cells [.esl, bv false, bv false]] = K := by rw [← hK, List.append_assoc]; rfl
 have hw0 := WrAt.new (H ++ [ABlk.cells [sv f.name, wv f.key, usv f.uses, tv f.types, obv f.objs]])
 rw [hK', List.length_append, List.length_singleton] at hw0
 have lK : K.length = H.length + 2 := by rw [← hK]; simp
 have hs0 : WS K (WF (H.length + 1) .esl) (H.length + 1) H.length (.cells [sv f.name, wv f.key, usv f.uses, tv f.types, obv f.objs]) K .esl w0 :=
  ⟨hw0, .rfl', k0, by simp [WF, rowB], by omega⟩
 have t0 := hs0.t
 simp (maxSteps := 2000000) (disch := omega) only [hK, t0, go_sem, seval, reduceCtorEq]
 refine Cont.rel (textW_c hs0.w _) ?_
 rintro v H1 ⟨rfl, x1, w1, c1⟩
 have hs1 := hs0.op w1 c1
 have t1 := hs1.t
 simp (maxSteps := 2000000) (disch := omega) only [t1, List.length_map, go_sem, seval, reduceCtorEq]
 refine Cont.rel (textW_c hs1.w _) ?_
 rintro v H2 ⟨rfl, x2, w2, c2⟩
 have hs2 := hs1.op w2 c2
 have t2 := hs2.t
 simp (maxSteps := 2000000) (disch := omega) only [t2, List.length_map, go_sem, seval, reduceCtorEq]
 refine Cont.rel (wordW_c hs2.w _ hk.1 hk.2) ?_
 rintro v H3 ⟨rfl, x3, w3, c3⟩
 have hs3 := hs2.op w3 c3
 have t3 := hs3.t
 simp (maxSteps := 2000000) (disch := omega) only [t3, List.length_map, go_sem, seval, reduceCtorEq]
 refine Cont.rel (numW_c hs3.w _) ?_
 rintro v H4 ⟨rfl, x4, w4, c4⟩
 have hs4 := hs3.op w4 c4
 have t4 := hs4.t
 simp (maxSteps := 2000000) (disch := omega) only [t4, List.length_map, go_sem, seval, reduceCtorEq]
 obtain ⟨S1, hS1⟩ : ∃ S1 : WG → List AV, ∀ g, S1 g = [.any, .ptr H.length 0, .any, .any, .ptr (H.length + 1) 0, .any, .any, .any, .any, .any, .any, .any, .any, .any, .any, .any, .any, .any, .any, .any, .any, .any, .any, .any, .any, .any, .any, .any, .any, .any, .any, .any, usv f.uses, iv f.uses.length, iv g.i] ++ List.replicate 77 .any := ⟨_, fun _ => rfl⟩
 obtain ⟨W4, hW4⟩ : ∃ W, W = itsW w0 [iT ⟨#[83, 80, 83, 89]⟩, iT f.name, iW f.key, iN f.uses.length] := ⟨_, rfl⟩
 have hS4 : WS K (WF (H.length + 1) .esl) (H.length + 1) H.length (.cells [sv f.name, wv f.key, usv f.uses, tv f.types, obv f.objs]) H4 x4 (itsW W4 ((f.uses.take 0).flatMap usI)) := by
  rw [List.take_zero, List.flatMap_nil, itsW_0, hW4]
  simp only [itsW_1, itsW_0, itW_b, itW_t, itW_n, itW_w]
  exact hs4
 refine W.loopG (γ := WG) (fun g => f.uses.length - g.i) S1 (fun g => g.H) (fun g => g.i ≤ f.uses.length ∧ WS K (WF (H.length + 1) .esl) (H.length + 1) H.length (.cells [sv f.name, wv f.key, usv f.uses, tv f.types, obv f.objs]) g.H g.x (itsW W4 ((f.uses.take g.i).flatMap usI))) ⟨0, H4, x4⟩ (Wk.slots (by rw [hS1]; exact WkL.tail 35 _ rfl (by simp only [List.take_succ_cons, List.take_zero]; repeat' first | exact WkL.nil | refine WkL.cons (Wk1.rfl _) ?_ | refine WkL.cons Wk1.esl ?_ | refine WkL.cons (Wk1.gsl _ _ _) ?_ | refine WkL.cons (Wk1.any _) ?_))) ⟨Nat.zero_le _, hS4⟩ (fun g hg => ?_)
 obtain ⟨i, G4, y4⟩ := g
 obtain ⟨hi, hI4⟩ := hg
 simp only at hi hI4
 have u4 := hI4.t
 by_cases hi3 : i < f.uses.length
 ·obtain ⟨e, he⟩ : ∃ e, f.uses[i]? = some e := ⟨_, List.getElem?_eq_getElem hi3⟩
  have hem : e ∈ f.uses := List.mem_of_getElem? he
  have hia := iaA_us (t := f.uses) (a := i) (by omega) (by omega)
  rw [usAt, show ((i : Nat) : Int).toNat = i from rfl, List.getD_eq_getElem?_getD, he, Option.getD_some] at hia
  have hfs := flat_s usI f.uses he
  obtain ⟨G0, hG0⟩ : ∃ G0, G4 ++ [ABlk.cells [sv e.name, wv e.key]] = G0 := ⟨_, rfl⟩
  have hs0 := hI4.new (.cells [sv e.name, wv e.key])
  rw [hG0] at hs0
  have t0 := hs0.t
  have gb : ∀ k, (G4 ++ [k])[G4.length]? = some k := fun k => List.getElem?_concat_length
  have gs : ∀ k k', (G4 ++ [k]).set G4.length k' = G4 ++ [k'] := fun k k' => by rw [List.set_append_right _ _ (Nat.le_refl _), Nat.sub_self]; rfl
  have hke := huk e hem
  simp (maxSteps := 2000000) (disch := omega) only [hS1, c27l2, hia, Us.c, gb, gs, hG0, t0, go_sem, seval, reduceCtorEq]
  refine Cont.rel (textW_c hs0.w _) ?_
  rintro v H1 ⟨rfl, x1, w1, c1⟩
  have hs1 := hs0.op w1 c1
  have t1 := hs1.t
  simp (maxSteps := 2000000) (disch := omega) only [t1, go_sem, seval, reduceCtorEq]
  refine Cont.rel (wordW_c hs1.w _ hke.1 hke.2) ?_
  rintro v H2 ⟨rfl, x2, w2, c2⟩
  have hs2 := hs1.op w2 c2
  have t2 := hs2.t
  simp (maxSteps := 2000000) (disch := omega) only [t2, go_sem, seval, reduceCtorEq]
  refine Nxt.mk ⟨i + 1, H2, x2⟩ (by show f.uses.length - (i + 1) < f.uses.length - i; omega) (Wk.slots (by rw [hS1]; exact WkL.tail 35 _ rfl (by simp only [List.take_succ_cons, List.take_zero]; repeat' first | exact WkL.nil | refine WkL.cons (Wk1.rfl _) ?_ | refine WkL.cons Wk1.esl ?_ | refine WkL.cons (Wk1.gsl _ _ _) ?_ | refine WkL.cons (Wk1.any _) ?_))) ⟨hi3, ?_⟩
  show WS _ _ _ _ _ H2 x2 (itsW W4 ((f.uses.take (i + 1)).flatMap usI))
  rw [hfs, itsW_app]
  have hb := hs2
  exact hI4.back (by rw [← hG0] at hb; exact hb)
 have hin : i = f.uses.length := by omega
 subst hin
 rw [List.take_length] at hI4
 simp (maxSteps := 2000000) (disch := omega) only [hS1, c27l2, u4, List.length_map, go_sem, seval, reduceCtorEq]
 obtain ⟨tl, htl⟩ : ∃ tl, f.types.drop 7 = tl := ⟨_, rfl⟩
 have a10 : ((f.types.map Ty.c).all fun e => e.length == 10) = true := all_map Ty.c 10 (fun _ => rfl) _
 have dr : List.take (f.types.length - 7) (List.drop 7 (f.types.map Ty.c)) = tl.map Ty.c := by rw [← List.map_drop, htl, List.take_of_length_le (by rw [List.length_map, ← htl, List.length_drop]; omega)]
 have ltl : tl.length ≤ 256 := by rw [← htl, List.length_drop]; omega
 have hts : ∀ e ∈ tl, e.fields.length ≤ 9000000 ∧ e.params.length ≤ 9000000 := fun e he => by
  have := hs.2 e (List.mem_of_mem_drop (by rw [htl]; exact he))
  omega
 have hs4 := hI4
 simp (maxSteps := 2000000) (disch := omega) only [a10, dr, List.length_map, go_sem, seval, reduceCtorEq]
 refine Cont.rel (numW_c hs4.w _) ?_
 rintro v H5 ⟨rfl, x5, w5, c5⟩
 have hs5 := hs4.op w5 c5
 have t5 := hs5.t
 simp (maxSteps := 2000000) (disch := omega) only [t5, List.length_map, go_sem, seval, reduceCtorEq]
 obtain ⟨S2, hS2⟩ : ∃ S2 : WG → List AV, ∀ g, S2 g = [.any, .ptr H.length 0, .any, .any, .ptr (H.length + 1) 0, .any, .any, .any, .any, .any, .any, .any, .any, .any, .any, .any, .any, .any, .any, .any, .any, .any, .any, .any, .any, .any, .any, .any, .any, .any, .any, .any, .any, .any, .any, .any, .any, .any, .any, .any, .any, .any, .any, .any, .any, .any, .any, .any, .any, .any, .any, .any, .any, .any, tv tl, iv tl.length, iv g.i] ++ List.replicate 55 .any := ⟨_, fun _ => rfl⟩
 obtain ⟨W5, hW5⟩ : ∃ W, W = itsW (itsW W4 (f.uses.flatMap usI)) [iN tl.length] := ⟨_, rfl⟩
 have hS5 : WS K (WF (H.length + 1) .esl) (H.length + 1) H.length (.cells [sv f.name, wv f.key, usv f.uses, tv f.types, obv f.objs]) H5 x5 (itsW W5 ((tl.take 0).flatMap tyI)) := by
  rw [List.take_zero, List.flatMap_nil, itsW_0, hW5]
  simp only [itsW_1, itsW_0, itW_b, itW_t, itW_n, itW_w]
  exact hs5
 refine W.loopG (γ := WG) (fun g => tl.length - g.i) S2 (fun g => g.H) (fun g => g.i ≤ tl.length ∧ WS K (WF (H.length + 1) .esl) (H.length + 1) H.length (.cells [sv f.name, wv f.key, usv f.uses, tv f.types, obv f.objs]) g.H g.x (itsW W5 ((tl.take g.i).flatMap tyI))) ⟨0, H5, x5⟩ (Wk.slots (by rw [hS2]; exact WkL.tail 57 _ rfl (by simp only [List.take_succ_cons, List.take_zero]; repeat' first | exact WkL.nil | refine WkL.cons (Wk1.rfl _) ?_ | refine WkL.cons Wk1.esl ?_ | refine WkL.cons (Wk1.gsl _ _ _) ?_ | refine WkL.cons (Wk1.any _) ?_))) ⟨Nat.zero_le _, hS5⟩ (fun g hg => ?_)
 obtain ⟨i, G5, y5⟩ := g
 obtain ⟨hi, hI5⟩ := hg
 simp only at hi hI5
 have u5 := hI5.t
 by_cases hi3 : i < tl.length
 ·obtain ⟨e, he⟩ : ∃ e, tl[i]? = some e := ⟨_, List.getElem?_eq_getElem hi3⟩
  have hem : e ∈ tl := List.mem_of_getElem? he
  have hia := iaA_ty (t := tl) (a := i) (by omega) (by omega)
  rw [tyAt, show ((i : Nat) : Int).toNat = i from rfl, List.getD_eq_getElem?_getD, he, Option.getD_some] at hia
  have hfs := flat_s tyI tl he
  obtain ⟨G0, hG0⟩ : ∃ G0, G5 ++ [ABlk.cells [iv e.form, sv e.mod, sv e.name, iv e.len, iv e.elem, iv e.base, fdv e.fields, pmv e.params, iv e.result, iv e.desc]] = G0 := ⟨_, rfl⟩
  have hs0 := hI5.new (.cells [iv e.form, sv e.mod, sv e.name, iv e.len, iv e.elem, iv e.base, fdv e.fields, pmv e.params, iv e.result, iv e.desc])
  rw [hG0] at hs0
  have t0 := hs0.t
  have gb : ∀ k, (G5 ++ [k])[G5.length]? = some k := fun k => List.getElem?_concat_length
  have gs : ∀ k k', (G5 ++ [k]).set G5.length k' = G5 ++ [k'] := fun k k' => by rw [List.set_append_right _ _ (Nat.le_refl _), Nat.sub_self]; rfl
  have hte := hts e hem
  simp (maxSteps := 2000000) (disch := omega) only [hS2, c27l1, hia, Ty.c, gb, gs, hG0, t0, go_sem, seval, reduceCtorEq]
  refine Cont.rel (puts_c hs0.w e hte.1 hte.2) ?_
  rintro v H1 ⟨rfl, x1, w1, c1⟩
  have hs1 := hs0.op w1 c1
  have t1 := hs1.t
  simp (maxSteps := 2000000) (disch := omega) only [t1, go_sem, seval, reduceCtorEq]
  refine Nxt.mk ⟨i + 1, H1, x1⟩ (by show tl.length - (i + 1) < tl.length - i; omega) (Wk.slots (by rw [hS2]; exact WkL.tail 57 _ rfl (by simp only [List.take_succ_cons, List.take_zero]; repeat' first | exact WkL.nil | refine WkL.cons (Wk1.rfl _) ?_ | refine WkL.cons Wk1.esl ?_ | refine WkL.cons (Wk1.gsl _ _ _) ?_ | refine WkL.cons (Wk1.any _) ?_))) ⟨hi3, ?_⟩
  show WS _ _ _ _ _ H1 x1 (itsW W5 ((tl.take (i + 1)).flatMap tyI))
  rw [hfs, itsW_app]
  have hb := hs1
  exact hI5.back (by rw [← hG0] at hb; exact hb)
 have hin : i = tl.length := by omega
 subst hin
 rw [List.take_length] at hI5
 simp (maxSteps := 2000000) (disch := omega) only [hS2, c27l1, u5, List.length_map, go_sem, seval, reduceCtorEq]
 have hs5 := hI5
 refine Cont.rel (numW_c hs5.w _) ?_
 rintro v H6 ⟨rfl, x6, w6, c6⟩
 have hs6 := hs5.op w6 c6
 have t6 := hs6.t
 simp (maxSteps := 2000000) (disch := omega) only [t6, List.length_map, go_sem, seval, reduceCtorEq]
 obtain ⟨S3, hS3⟩ : ∃ S3 : WG → List AV, ∀ g, S3 g = [.any, .ptr H.length 0, .any, .any, .ptr (H.length + 1) 0, .any, .any, .any, .any, .any, .any, .any, .any, .any, .any, .any, .any, .any, .any, .any, .any, .any, .any, .any, .any, .any, .any, .any, .any, .any, .any, .any, .any, .any, .any, .any, .any, .any, .any, .any, .any, .any, .any, .any, .any, .any, .any, .any, .any, .any, .any, .any, .any, .any, .any, .any, .any, .any, .any, .any, .any, .any, .any, .any, .any, .any, .any, .any, .any, .any, obv f.objs, iv f.objs.length, iv g.i] ++ List.replicate 39 .any := ⟨_, fun _ => rfl⟩
 obtain ⟨W6, hW6⟩ : ∃ W, W = itsW (itsW W5 (tl.flatMap tyI)) [iN f.objs.length] := ⟨_, rfl⟩
 have hS6 : WS K (WF (H.length + 1) .esl) (H.length + 1) H.length (.cells [sv f.name, wv f.key, usv f.uses, tv f.types, obv f.objs]) H6 x6 (itsW W6 ((f.objs.take 0).flatMap obI)) := by
  rw [List.take_zero, List.flatMap_nil, itsW_0, hW6]
  simp only [itsW_1, itsW_0, itW_b, itW_t, itW_n, itW_w]
  exact hs6
 refine W.loopG (γ := WG) (fun g => f.objs.length - g.i) S3 (fun g => g.H) (fun g => g.i ≤ f.objs.length ∧ WS K (WF (H.length + 1) .esl) (H.length + 1) H.length (.cells [sv f.name, wv f.key, usv f.uses, tv f.types, obv f.objs]) g.H g.x (itsW W6 ((f.objs.take g.i).flatMap obI))) ⟨0, H6, x6⟩ (Wk.slots (by rw [hS3]; exact WkL.tail 73 _ rfl (by simp only [List.take_succ_cons, List.take_zero]; repeat' first | exact WkL.nil | refine WkL.cons (Wk1.rfl _) ?_ | refine WkL.cons Wk1.esl ?_ | refine WkL.cons (Wk1.gsl _ _ _) ?_ | refine WkL.cons (Wk1.any _) ?_))) ⟨Nat.zero_le _, hS6⟩ (fun g hg => ?_)
 obtain ⟨i, G6, y6⟩ := g
 obtain ⟨hi, hI6⟩ := hg
 simp only at hi hI6
 have u6 := hI6.t
 by_cases hi3 : i < f.objs.length
 ·obtain ⟨e, he⟩ : ∃ e, f.objs[i]? = some e := ⟨_, List.getElem?_eq_getElem hi3⟩
  have hem : e ∈ f.objs := List.mem_of_getElem? he
  have hia := iaA_ob (t := f.objs) (a := i) (by omega) (by omega)
  rw [obAt, show ((i : Nat) : Int).toNat = i from rfl, List.getD_eq_getElem?_getD, he, Option.getD_some] at hia
  have hfs := flat_s obI f.objs he
  obtain ⟨G0, hG0⟩ : ∃ G0, G6 ++ [ABlk.cells [iv e.cls, sv e.name, iv e.typ, iv e.val.form, iv e.val.n, sv e.val.text, iv e.n]] = G0 := ⟨_, rfl⟩
  have hs0 := hI6.new (.cells [iv e.cls, sv e.name, iv e.typ, iv e.val.form, iv e.val.n, sv e.val.text, iv e.n])
  rw [hG0] at hs0
  have t0 := hs0.t
  have gb : ∀ k, (G6 ++ [k])[G6.length]? = some k := fun k => List.getElem?_concat_length
  have gs : ∀ k k', (G6 ++ [k]).set G6.length k' = G6 ++ [k'] := fun k k' => by rw [List.set_append_right _ _ (Nat.le_refl _), Nat.sub_self]; rfl
  simp (maxSteps := 2000000) (disch := omega) only [hS3, c27l0, hia, Ob.c, gb, gs, hG0, t0, go_sem, seval, reduceCtorEq]
  refine Cont.rel (byteW_c hs0.w _) ?_
  rintro v H1 ⟨rfl, x1, w1, c1⟩
  have hs1 := hs0.op w1 c1
  have t1 := hs1.t
  simp (maxSteps := 2000000) (disch := omega) only [t1, go_sem, seval, reduceCtorEq]
  refine Cont.rel (textW_c hs1.w _) ?_
  rintro v H2 ⟨rfl, x2, w2, c2⟩
  have hs2 := hs1.op w2 c2
  have t2 := hs2.t
  simp (maxSteps := 2000000) (disch := omega) only [t2, go_sem, seval, reduceCtorEq]
  refine Cont.rel (numW_c hs2.w _) ?_
  rintro v H3 ⟨rfl, x3, w3, c3⟩
  have hs3 := hs2.op w3 c3
  have t3 := hs3.t
  simp (maxSteps := 2000000) (disch := omega) only [t3, go_sem, seval, reduceCtorEq]
  refine Cont.rel (byteW_c hs3.w _) ?_
  rintro v H4 ⟨rfl, x4, w4, c4⟩
  have hs4 := hs3.op w4 c4
  have t4 := hs4.t
  simp (maxSteps := 2000000) (disch := omega) only [t4, go_sem, seval, reduceCtorEq]
  refine Cont.mk (number_c e.val _) ?_
  simp (maxSteps := 2000000) (disch := omega) only [go_sem, seval, reduceCtorEq]
  refine Cont.rel (numW_c hs4.w _) ?_
  rintro v H5 ⟨rfl, x5, w5, c5⟩
  have hs5 := hs4.op w5 c5
  have t5 := hs5.t
  simp (maxSteps := 2000000) (disch := omega) only [t5, go_sem, seval, reduceCtorEq]
  refine Cont.rel (textW_c hs5.w _) ?_
  rintro v H6 ⟨rfl, x6, w6, c6⟩
  have hs6 := hs5.op w6 c6
  have t6 := hs6.t
  simp (maxSteps := 2000000) (disch := omega) only [t6, go_sem, seval, reduceCtorEq]
  refine Cont.rel (numW_c hs6.w _) ?_
  rintro v H7 ⟨rfl, x7, w7, c7⟩
  have hs7 := hs6.op w7 c7
  have t7 := hs7.t
  simp (maxSteps := 2000000) (disch := omega) only [t7, go_sem, seval, reduceCtorEq]
  refine Nxt.mk ⟨i + 1, H7, x7⟩ (by show f.objs.length - (i + 1) < f.objs.length - i; omega) (Wk.slots (by rw [hS3]; exact WkL.tail 73 _ rfl (by simp only [List.take_succ_cons, List.take_zero]; repeat' first | exact WkL.nil | refine WkL.cons (Wk1.rfl _) ?_ | refine WkL.cons Wk1.esl ?_ | refine WkL.cons (Wk1.gsl _ _ _) ?_ | refine WkL.cons (Wk1.any _) ?_))) ⟨hi3, ?_⟩
  show WS _ _ _ _ _ H7 x7 (itsW W6 ((f.objs.take (i + 1)).flatMap obI))
  rw [hfs, itsW_app]
  have hb := hs7
  exact hI6.back (by rw [← hG0] at hb; exact hb)
 have hin : i = f.objs.length := by omega
 subst hin
 rw [List.take_length] at hI6
 simp (maxSteps := 2000000) (disch := omega) only [hS3, c27l0, u6, List.length_map, go_sem, seval, reduceCtorEq]
 refine Cont.mk (bytesW_c hI6.w) ?_
 have hend : itsW W6 (f.objs.flatMap obI) = itsW w0 (encI f) := by
  rw [hW6, hW5, hW4]
  simp only [← itsW_app, encI, htl, List.append_assoc, List.cons_append, List.nil_append]
 rw [hend]
 have hpre : H <+: G6 := by
  refine pre_of (by have := hI6.c.len; omega) fun b hb => ?_
  have e1 : b ∉ WF (H.length + 1) AV.esl := by simp [WF, rowB]; omega
  rw [hI6.c.out b (by omega) e1, ← hK, List.getElem?_append_left hb]
 have hp : (if (itsW w0 (encI f)).sp = true then [sv nl, iv 1] else if (itsW w0 (encI f)).tl = true then [sv nl, iv 2] else [sv ⟨(itsW w0 (encI f)).bs.toArray⟩, iv 0]) = endW (itsW w0 (encI f)) := rfl
 rw [hp]
 obtain ⟨a, b, hab⟩ : ∃ a b, endW (itsW w0 (encI f)) = [sv a, iv b] := by
  unfold endW; split
  ·exact ⟨_, _, rfl⟩
  ·split <;> exact ⟨_, _, rfl⟩
 rw [hab]
 simp (maxSteps := 2000000) (disch := omega) only [go_sem, seval, reduceCtorEq]
 exact Ret.pre _ H hpre (Nat.le_refl _) hcl (.rfl _) (by simp [refs, refs.refsL]) ⟨rfl, rfl⟩
end Go.Proofs.Ythifjndenhjobaa.Rid
