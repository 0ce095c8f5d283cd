/- r17.Encode. Printed by genS5.py. -/
import Derived.Test.YthifjndenhjobaaYS4
import Derived.Test.YthifjndenhjobaaYID
namespace Go.Proofs.Ythifjndenhjobaa.Rid
set_option linter.unusedSimpArgs false
set_option linter.unusedVariables false
set_option maxRecDepth 20000
set_option maxHeartbeats 4000000
open Go.RowKit

def c28l0 : AC :=
 .seq (.seq (.reg [kn 77 (.mv (.t 7)), kn 78 (.fa (.t 1) 4), kn 79 (.ld (.t 78) 1 false), kn 80 (.len false (.t 79)), kn 81 (.bin .lss (.t 77) (.t 80))])
 (.cond (.t 81) (.skip) (.exit 4)))
 (.seq (.block 5 (.seq (.reg [kn 84 (.fa (.t 1) 4), kn 85 (.ld (.t 84) 1 false), kn 86 (.mv (.t 7)), kn 87 (.ia (.t 85) (.t 86) 7), kn 88 (.ld (.t 87) 7 true), kn 8 (.al [kz, (.d (.v (.string ⟨#[]⟩))), kz, kz, kz, (.d (.v (.string ⟨#[]⟩))), kz]), ke (.st (.t 8) (.t 88) 7)])
 (.seq (.reg [kn 89 (.mv (.t 4)), kn 90 (.fa (.t 8) 0), kn 91 (.ld (.t 90) 1 false), kn 92 (.call 64 [(.t 89), (.t 91)])])
 (.seq (.reg [kn 93 (.mv (.t 4)), kn 94 (.fa (.t 8) 1), kn 95 (.ld (.t 94) 1 false), kn 96 (.call 60 [(.t 93), (.t 95)])])
 (.seq (.reg [kn 97 (.mv (.t 4)), kn 98 (.fa (.t 8) 2), kn 99 (.ld (.t 98) 1 false), kn 100 (.call 62 [(.t 97), (.t 99)])])
 (.seq (.reg [kn 101 (.mv (.t 4)), kn 102 (.fa (.t 8) 3), kn 103 (.fa (.t 102) 0), kn 104 (.ld (.t 103) 1 false), kn 105 (.call 64 [(.t 101), (.t 104)])])
 (.seq (.reg [kn 106 (.mv (.t 4)), kn 107 (.fa (.t 8) 3), kn 108 (.ld (.t 107) 3 true), kn 109 (.call 65 [(.t 108)]), kn 110 (.call 62 [(.t 106), (.t 109)])])
 (.seq (.reg [kn 111 (.mv (.t 4)), kn 112 (.fa (.t 8) 3), kn 113 (.fa (.t 112) 2), kn 114 (.ld (.t 113) 1 false), kn 115 (.call 60 [(.t 111), (.t 114)])])
 (.reg [kn 116 (.mv (.t 4)), kn 117 (.fa (.t 8) 6), kn 118 (.ld (.t 117) 1 false), kn 119 (.call 62 [(.t 116), (.t 118)])])))))))))
 (.reg [kn 82 (.mv (.t 7)), kn 83 (.bin .add (.t 82) (kc 1)), kn 7 (.mv (.t 83))]))

def c28l1 : AC :=
 .seq (.seq (.reg [kn 58 (.mv (.t 6)), kn 59 (.fa (.t 1) 3), kn 60 (.ld (.t 59) 1 false), kn 61 (.len false (.t 60)), kn 62 (.bin .lss (.t 58) (.t 61))])
 (.cond (.t 62) (.skip) (.exit 2)))
 (.seq (.block 3 (.reg [kn 65 (.mv (.t 4)), kn 66 (.fa (.t 1) 3), kn 67 (.ld (.t 66) 1 false), kn 68 (.mv (.t 6)), kn 69 (.ia (.t 67) (.t 68) 10), kn 70 (.ld (.t 69) 10 true), kn 71 (.call 63 [(.t 65), (.t 70)])]))
 (.reg [kn 63 (.mv (.t 6)), kn 64 (.bin .add (.t 63) (kc 1)), kn 6 (.mv (.t 64))]))

def c28l2 : AC :=
 .seq (.seq (.reg [kn 29 (.mv (.t 5)), kn 30 (.fa (.t 1) 2), kn 31 (.ld (.t 30) 1 false), kn 32 (.len false (.t 31)), kn 33 (.bin .lss (.t 29) (.t 32))])
 (.cond (.t 33) (.skip) (.exit 0)))
 (.seq (.block 1 (.seq (.reg [kn 36 (.mv (.t 4)), kn 37 (.fa (.t 1) 2), kn 38 (.ld (.t 37) 1 false), kn 39 (.mv (.t 5)), kn 40 (.ia (.t 38) (.t 39) 2), kn 41 (.fa (.t 40) 0), kn 42 (.ld (.t 41) 1 false), kn 43 (.call 60 [(.t 36), (.t 42)])])
 (.reg [kn 44 (.mv (.t 4)), kn 45 (.fa (.t 1) 2), kn 46 (.ld (.t 45) 1 false), kn 47 (.mv (.t 5)), kn 48 (.ia (.t 46) (.t 47) 2), kn 49 (.fa (.t 48) 1), kn 50 (.ld (.t 49) 1 false), kn 51 (.call 61 [(.t 44), (.t 50)])])))
 (.reg [kn 34 (.mv (.t 5)), kn 35 (.bin .add (.t 34) (kc 1)), kn 5 (.mv (.t 35))]))

def c28 : AC :=
 .seq (.reg [kn 1 (.bx (.t 0)), kn 2 (.mv (.c (.d (.v (.string ⟨#[]⟩))))), kn 3 (.mv (kc 0))])
 (.seq (.seq (.reg [kn 9 (.ld (.t 1) 5 true), kn 10 (.call 20 [(.t 9)]), kn 11 (.un .not (.t 10))])
 (.cond (.t 11) (.seq (.reg [kn 2 (.mv (.c (.d (.v (.string ⟨#[]⟩))))), kn 3 (.mv (kc 160))])
 (.ret)) (.skip)))
 (.seq (.reg [kn 12 (.bd [.esl, (.d (.v (.bool false)))] []), kn 13 (.bx (.t 12)), kn 4 (.mv (.t 13))])
 (.seq (.reg [kn 14 (.mv (.t 4)), kn 15 (.call 60 [(.t 14), (.c (.d (.v (.string ⟨#[83, 80, 83, 89]⟩))))])])
 (.seq (.reg [kn 16 (.mv (.t 4)), kn 17 (.fa (.t 1) 0), kn 18 (.ld (.t 17) 1 false), kn 19 (.call 60 [(.t 16), (.t 18)])])
 (.seq (.reg [kn 20 (.mv (.t 4)), kn 21 (.fa (.t 1) 1), kn 22 (.ld (.t 21) 1 false), kn 23 (.call 61 [(.t 20), (.t 22)])])
 (.seq (.reg [kn 24 (.mv (.t 4)), kn 25 (.fa (.t 1) 2), kn 26 (.ld (.t 25) 1 false), kn 27 (.len false (.t 26)), kn 28 (.call 62 [(.t 24), (.t 27)])])
 (.seq (.seq (.reg [kn 5 (.mv (kc 0))])
 (.block 0 (.loop c28l2)))
 (.seq (.reg [kn 52 (.mv (.t 4)), kn 53 (.fa (.t 1) 3), kn 54 (.ld (.t 53) 1 false), kn 55 (.len false (.t 54)), kn 56 (.bin .sub (.t 55) (kc 7)), kn 57 (.call 62 [(.t 52), (.t 56)])])
 (.seq (.seq (.reg [kn 6 (.mv (kc 7))])
 (.block 2 (.loop c28l1)))
 (.seq (.reg [kn 72 (.mv (.t 4)), kn 73 (.fa (.t 1) 4), kn 74 (.ld (.t 73) 1 false), kn 75 (.len false (.t 74)), kn 76 (.call 62 [(.t 72), (.t 75)])])
 (.seq (.seq (.reg [kn 7 (.mv (kc 0))])
 (.block 4 (.loop c28l0)))
 (.seq (.reg [kn 120 (.mv (.t 4)), kn 121 (.call 66 [(.t 120)]), kn 122 (.ext (.t 121) 0), kn 123 (.ext (.t 121) 1), kn 2 (.mv (.t 122)), kn 3 (.mv (.t 123))])
 (.ret)))))))))))))
def r28 : List RC := [.t 2, .t 3]

def c30 : AC :=
 .seq (.reg [kn 1 (.bx (.t 0)), kn 2 (.mv (.c (.d (.v (.int .u32 0))))), kn 3 (.mv (kc 0))])
 (.seq (.reg [kn 6 (.fa (.t 1) 1), ke (.st (.t 6) (.c (.d (.v (.int .u32 0)))) 1)])
 (.seq (.reg [kn 8 (.ld (.t 1) 5 true), kn 9 (.call 28 [(.t 8)]), kn 7 (.mv (.t 9)), kn 10 (.ext (.t 7) 0), kn 11 (.ext (.t 7) 1), kn 4 (.mv (.t 10)), kn 5 (.mv (.t 11))])
 (.seq (.seq (.reg [kn 12 (.mv (.t 5)), kn 13 (.bin .neq (.t 12) (kc 0))])
 (.cond (.t 13) (.seq (.reg [kn 14 (.mv (.t 5)), kn 2 (.mv (.c (.d (.v (.int .u32 0))))), kn 3 (.mv (.t 14))])
 (.ret)) (.skip)))
 (.seq (.reg [kn 15 (.mv (.t 4)), kn 16 (.call 67 [(.t 15)]), kn 2 (.mv (.t 16)), kn 3 (.mv (kc 0))])
 (.ret)))))
def r30 : List RC := [.t 2, .t 3]

def c65 : AC :=
 .seq (.reg [kn 1 (.bx (.t 0)), kn 2 (.mv (kc 0))])
 (.seq (.seq (.reg [kn 3 (.fa (.t 1) 0), kn 4 (.ld (.t 3) 1 false), kn 5 (.bin .eql (.t 4) (kc 4))])
 (.cond (.t 5) (.seq (.reg [kn 6 (.fa (.t 1) 1), kn 7 (.ld (.t 6) 1 false), kn 8 (.cvi .u32 (.t 7)), kn 9 (.call 99 [(.t 8)]), kn 2 (.mv (.t 9))])
 (.ret)) (.skip)))
 (.seq (.reg [kn 10 (.fa (.t 1) 1), kn 11 (.ld (.t 10) 1 false), kn 2 (.mv (.t 11))])
 (.ret)))
def r65 : List RC := [.t 2]

def c99 : AC :=
 .seq (.reg [kn 2 (.mv (kc 0))])
 (.seq (.seq (.reg [kn 3 (.mv (.t 0)), kn 4 (.bin .geq (.t 3) (.c (.d (.v (.int .u32 2147483648)))))])
 (.cond (.t 4) (.seq (.reg [kn 5 (.mv (.t 0)), kn 6 (.cvi .i64 (.t 5)), kn 7 (.bin .sub (.t 6) (kc 4294967296)), kn 2 (.mv (.t 7))])
 (.ret)) (.skip)))
 (.seq (.reg [kn 8 (.mv (.t 0)), kn 9 (.cvi .i64 (.t 8)), kn 2 (.mv (.t 9))])
 (.ret)))
def r99 : List RC := [.t 2]

theorem cc28 : Try.f28.body.bind (comp Try.prog (hhW 28)) = some c28 := by kernel_rfl
theorem rr28 : resC Try.prog Try.f28 = some r28 := by kernel_rfl
theorem cc30 : Try.f30.body.bind (comp Try.prog (hhW 30)) = some c30 := by kernel_rfl
theorem rr30 : resC Try.prog Try.f30 = some r30 := by kernel_rfl
theorem cc65 : Try.f65.body.bind (comp Try.prog (hhW 65)) = some c65 := by kernel_rfl
theorem rr65 : resC Try.prog Try.f65 = some r65 := by kernel_rfl
theorem cc99 : Try.f99.body.bind (comp Try.prog (hhW 99)) = some c99 := by kernel_rfl
theorem rr99 : resC Try.prog Try.f99 = some r99 := by kernel_rfl
theorem signedR_c (n : Int) (h0 : 0 ≤ n) (h1 : n < 4294967296) (H : List ABlk) : ACalls Try.prog 99 [wv n] H fun v H' => v = iv (sg32 n) ∧ H' = H := by
 refine ACalls.into Try.func99 cc99 rr99 fun hcl => ?_
 have e0 : n % 4294967296 = n := by omega
 by_cases h : 2147483648 ≤ n
 ·have e : sg32 n = n - 4294967296 := by rw [sg32, e0, if_pos h]
  have e2 : IntKind.i64.wrap (n - 4294967296) = n - 4294967296 := w_i64 (by omega) (by omega)
  simp (maxSteps := 2000000) (disch := omega) only [Try.ntmps99, c99, r99, decide_eq_true (show n ≥ 2147483648 from h), e2, go_sem, seval, reduceCtorEq]
  exact Ret.keep ⟨by rw [e], rfl⟩
 ·have e : sg32 n = n := by rw [sg32, e0, if_neg h]
  simp (maxSteps := 2000000) (disch := omega) only [Try.ntmps99, c99, r99, decide_eq_false (show ¬ n ≥ 2147483648 from h), go_sem, seval, reduceCtorEq]
  exact Ret.keep ⟨by rw [e], rfl⟩
theorem numberR_c (v : Vl) (H : List ABlk) : ACalls Try.prog 65 [v.av] H fun u H' => u = iv (numV v) ∧ H' = H := by
 refine ACalls.into Try.func65 cc65 rr65 fun hcl => ?_
 by_cases h : v.form = 4
 ·have e1 : IntKind.u32.wrap v.n = v.n % 4294967296 := by simp [IntKind.wrap, IntKind.bits, IntKind.signed]
  have e2 : sg32 (v.n % 4294967296) = sg32 v.n := by unfold sg32; rw [show v.n % 4294967296 % 4294967296 = v.n % 4294967296 by omega]
  simp (maxSteps := 2000000) (disch := omega) only [Try.ntmps65, c65, r65, decide_eq_true h, e1, go_sem, seval, reduceCtorEq]
  refine Cont.mk (signedR_c _ (by omega) (by omega) _) ?_
  simp (maxSteps := 2000000) (disch := omega) only [go_sem, seval, reduceCtorEq]
  exact Ret.pre _ H (List.prefix_append _ _) (Nat.le_refl _) hcl (.rfl _) (by simp [refs]) ⟨by rw [numV, if_pos h, e2], rfl⟩
 ·simp (maxSteps := 2000000) (disch := omega) only [Try.ntmps65, c65, r65, decide_eq_false h, go_sem, seval, reduceCtorEq]
  exact Ret.pre _ H (List.prefix_append _ _) (Nat.le_refl _) hcl (.rfl _) (by simp [refs]) ⟨by rw [numV, if_neg h], rfl⟩
theorem encodeR_no {f : Fc} (hf : FIn f) (hs : Small f.types) (hF : ¬ FaceP f) (H : List ABlk) : ACalls Try.prog 28 [f.av] H fun v H' => v = .tup [sv nl, iv 160] ∧ H' = H := by
 refine ACalls.into Try.func28 cc28 rr28 fun hcl => ?_
 simp (maxSteps := 2000000) (disch := omega) only [Try.ntmps28, c28, r28, Fc.cs, go_sem, seval, reduceCtorEq]
 refine Cont.mk (rgood16_c hf hs _) ?_
 rw [cdec_f hF]
 simp (maxSteps := 2000000) (disch := omega) only [go_sem, seval, reduceCtorEq]
 exact Ret.pre _ H (List.prefix_append _ _) (Nat.le_refl _) hcl (.rfl _) (by simp [refs, refs.refsL]) ⟨rfl, rfl⟩
theorem face_64 {f : Fc} (hF : FaceP f) : ∀ e ∈ f.types, e.fields.length ≤ 64 ∧ e.params.length ≤ 64 := fun e he => by
 obtain ⟨i, hi, rfl⟩ := List.mem_iff_getElem.1 he
 have e1 : tyAt f.types (i : Int) = f.types[i] := by rw [tyAt, Int.toNat_natCast, List.getD_eq_getElem?_getD, List.getElem?_eq_getElem hi]; rfl
 rw [← e1]
 rcases hF.ty.at_ (a := (i : Int)) (by omega) (by omega) with ⟨h7, h⟩ | ⟨_, h⟩
 ·rw [h]; simp [bt]
 ·obtain ⟨h1, h2, h3, h4, h5, h6, h7, h8, h9⟩ := h
  generalize tyAt f.types (i : Int) = x at *
  rw [h8, h9]
  rcases h1 with h | h | h | h | h
  ·simp [want, h.1]
  ·simp [want, h.1]
  ·simp [want, h.1]; exact h.2.2.1
  ·simp [want, h.1]
  ·simp [want, h.1]; exact h.2.1
theorem QS.tyR {G : List ABlk} {F : List Nat} {qb tb : Nat} {k : ABlk} {H : List ABlk} {x : AV} {l : List It} {n : Nat} (h : QS G F qb tb k H x l n) (hn : n ≤ 119000) (t : Ty) (hf : t.fields.length ≤ 64) (hp : t.params.length ≤ 64) : ACalls Try.prog 63 [.ptr qb 0, t.av] H (QIt G F qb tb k (l ++ tyI t) (n + 330)) := typR_c h hn t hf hp

theorem encodeR_yes {f : Fc} (hf : FIn f) (hs : Small f.types) (hF : FaceP f) (hk : 0 ≤ f.key ∧ f.key < 4294967296) (huk : ∀ u ∈ f.uses, 0 ≤ u.key ∧ u.key < 4294967296) (H : List ABlk) : ACalls Try.prog 28 [f.av] H fun v H' => v = .tup (fileF (encI f)) ∧ H' = H := by
 refine ACalls.into Try.func28 cc28 rr28 fun hcl => ?_
 have hus := hF.us
 have hos := hF.os
 have h7 := hF.ty.len
 have hfp := face_64 hF
 simp (maxSteps := 2000000) (disch := omega) only [Try.ntmps28, c28, r28, Fc.cs, go_sem, seval, reduceCtorEq]
 refine Cont.mk (rgood16_c hf hs _) ?_
 rw [cdec_t hF]
 simp (maxSteps := 2000000) (disch := omega) only [go_sem, seval, reduceCtorEq]
 obtain ⟨K, hK⟩ : ∃ K, H ++ [ABlk.cells [sv f.name, wv f.key, usv f.uses, tv f.types, obv f.objs], .cells [.esl, bv false]] = K := ⟨_, rfl⟩
 have k0 : K[H.length]? = some (.cells [sv f.name, wv f.key, usv f.uses, tv f.types, obv f.objs]) := by rw [← hK, List.getElem?_append_right (Nat.le_refl _), Nat.sub_self]; rfl
 have lK : K.length = H.length + 2 := by rw [← hK]; simp
 have k1 : K[H.length + 1]? = some (.cells [.esl, bv false]) := by rw [← hK, List.getElem?_append_right (by omega), show H.length + 1 - H.length = 1 by omega]; rfl
 have hs0 : QS K (WF (H.length + 1) .esl) (H.length + 1) H.length (.cells [sv f.name, wv f.key, usv f.uses, tv f.types, obv f.objs]) K .esl [] 0 :=
  ⟨⟨false, ⟨k1, .inl ⟨rfl, rfl⟩, by simp [rowB]⟩, by simp⟩, .rfl', k0, by simp [WF, rowB], by omega, Nat.le_refl _⟩
 have t0 := hs0.t
 simp (maxSteps := 2000000) (disch := omega) only [hK, t0, go_sem, seval, reduceCtorEq]
 refine Cont.rel (hs0.text (by omega) _) ?_
 rintro v H1 ⟨rfl, x1, hs1⟩
 have t1 := hs1.t
 simp (maxSteps := 2000000) (disch := omega) only [t1, List.length_map, go_sem, seval, reduceCtorEq]
 refine Cont.rel (hs1.text (by omega) _) ?_
 rintro v H2 ⟨rfl, x2, hs2⟩
 have t2 := hs2.t
 simp (maxSteps := 2000000) (disch := omega) only [t2, List.length_map, go_sem, seval, reduceCtorEq]
 refine Cont.rel (hs2.word (by omega) _ hk.1 hk.2) ?_
 rintro v H3 ⟨rfl, x3, hs3⟩
 have t3 := hs3.t
 simp (maxSteps := 2000000) (disch := omega) only [t3, List.length_map, go_sem, seval, reduceCtorEq]
 refine Cont.rel (hs3.num (by omega) _) ?_
 rintro v H4 ⟨rfl, x4, hs4⟩
 have t4 := hs4.t
 simp (maxSteps := 2000000) (disch := omega) only [t4, List.length_map, go_sem, seval, reduceCtorEq]
 obtain ⟨S1, hS1⟩ : ∃ S1 : QG → List AV, ∀ g, S1 g = [.any, .ptr H.length 0, .any, .any, .ptr (H.length + 1) 0] ++ [iv g.i] ++ List.replicate 118 .any := ⟨_, fun _ => rfl⟩
 obtain ⟨L4, hL4⟩ : ∃ L, L = [] ++ [iT ⟨#[83, 80, 83, 89]⟩] ++ [iT f.name] ++ [iW f.key] ++ [iN f.uses.length] := ⟨_, rfl⟩
 have q4 : QS K (WF (H.length + 1) .esl) (H.length + 1) H.length (.cells [sv f.name, wv f.key, usv f.uses, tv f.types, obv f.objs]) H4 x4 (L4 ++ (f.uses.take 0).flatMap usI) (4 + 2 * 0) := by
  rw [List.take_zero, List.flatMap_nil, List.append_nil, hL4]
  exact hs4.up (by omega)
 refine W.loopG (γ := QG) (fun g => f.uses.length - g.i) S1 (fun g => g.H) (fun g => g.i ≤ f.uses.length ∧ QS K (WF (H.length + 1) .esl) (H.length + 1) H.length (.cells [sv f.name, wv f.key, usv f.uses, tv f.types, obv f.objs]) g.H g.x (L4 ++ (f.uses.take g.i).flatMap usI) (4 + 2 * g.i)) ⟨0, H4, x4⟩ (Wk.slots (by rw [hS1]; exact WkL.tail 6 _ rfl (by simp only [List.take_succ_cons, List.take_zero]; repeat' first | exact WkL.nil | refine WkL.cons (Wk1.rfl _) ?_ | refine WkL.cons Wk1.esl ?_ | refine WkL.cons (Wk1.gsl _ _ _) ?_ | refine WkL.cons (Wk1.any _) ?_))) ⟨by show 0 ≤ f.uses.length; omega, q4⟩ (fun g hg => ?_)
 obtain ⟨i, G4, y4⟩ := g
 obtain ⟨hi, hI4⟩ := hg
 simp only at hi hI4
 have u4 := hI4.t
 by_cases hi3 : i < f.uses.length
 ·obtain ⟨e, he⟩ : ∃ e, f.uses[i]? = some e := ⟨_, List.getElem?_eq_getElem hi3⟩
  have hem : e ∈ f.uses := List.mem_of_getElem? he
  have he2 : f.uses[i]? = some e := by exact he
  have hsuc : i + 1 = i + 1 := by omega
  have hia := iaA_us (t := f.uses) (a := i) (by omega) (by omega)
  rw [usAt, show ((i : Nat) : Int).toNat = i from rfl, List.getD_eq_getElem?_getD, he, Option.getD_some] at hia
  have hke := huk e hem
  have ss0 := hI4
  simp (maxSteps := 2000000) (disch := omega) only [hS1, c28l2, hia, Us.c, u4, List.length_map, go_sem, seval, reduceCtorEq]
  refine Cont.rel (ss0.text (by omega) _) ?_
  rintro v J1 ⟨rfl, z1, ss1⟩
  have r1 := ss1.t
  simp (maxSteps := 2000000) (disch := omega) only [r1, hia, Us.c, List.length_map, go_sem, seval, reduceCtorEq]
  refine Cont.rel (ss1.word (by omega) _ hke.1 hke.2) ?_
  rintro v Hz ⟨rfl, xz, hz⟩
  have tz := hz.t
  simp (maxSteps := 2000000) (disch := omega) only [tz, List.length_map, go_sem, seval, reduceCtorEq]
  refine Nxt.mk ⟨i + 1, Hz, xz⟩ (by show f.uses.length - (i + 1) < f.uses.length - i; omega) (Wk.slots (by rw [hS1]; exact WkL.tail 6 _ rfl (by simp only [List.take_succ_cons, List.take_zero]; repeat' first | exact WkL.nil | refine WkL.cons (Wk1.rfl _) ?_ | refine WkL.cons Wk1.esl ?_ | refine WkL.cons (Wk1.gsl _ _ _) ?_ | refine WkL.cons (Wk1.any _) ?_))) ⟨hi3, ?_⟩
  show QS _ _ _ _ _ Hz xz (L4 ++ (f.uses.take (i + 1)).flatMap usI) (4 + 2 * (i + 1))
  rw [hsuc, flat_s usI f.uses he2, ← List.append_assoc]
  exact QS.eqL (hz.up (by omega)) (by simp only [usI, List.append_assoc, List.cons_append, List.nil_append])
 have hin : i = f.uses.length := by omega
 subst hin
 rw [List.take_of_length_le (by omega)] at hI4
 have hs4 := hI4
 simp (maxSteps := 2000000) (disch := omega) only [hS1, c28l2, u4, List.length_map, go_sem, seval, reduceCtorEq]
 refine Cont.rel (hs4.num (by omega) _) ?_
 rintro v H5 ⟨rfl, x5, hs5⟩
 have t5 := hs5.t
 simp (maxSteps := 2000000) (disch := omega) only [t5, List.length_map, go_sem, seval, reduceCtorEq]
 have ltl : (f.types.drop 7).length = f.types.length - 7 := List.length_drop ..
 obtain ⟨S2, hS2⟩ : ∃ S2 : QG → List AV, ∀ g, S2 g = [.any, .ptr H.length 0, .any, .any, .ptr (H.length + 1) 0, .any] ++ [iv g.i] ++ List.replicate 117 .any := ⟨_, fun _ => rfl⟩
 obtain ⟨L5, hL5⟩ : ∃ L, L = L4 ++ f.uses.flatMap usI ++ [iN ((f.types.length : Int) - 7)] := ⟨_, rfl⟩
 have q5 : QS K (WF (H.length + 1) .esl) (H.length + 1) H.length (.cells [sv f.name, wv f.key, usv f.uses, tv f.types, obv f.objs]) H5 x5 (L5 ++ ((f.types.drop 7).take (7 - 7)).flatMap tyI) (37 + 330 * (7 - 7)) := by
  rw [Nat.sub_self, List.take_zero, List.flatMap_nil, List.append_nil, hL5]
  exact hs5.up (by omega)
 refine W.loopG (γ := QG) (fun g => f.types.length - g.i) S2 (fun g => g.H) (fun g => 7 ≤ g.i ∧ g.i ≤ f.types.length ∧ QS K (WF (H.length + 1) .esl) (H.length + 1) H.length (.cells [sv f.name, wv f.key, usv f.uses, tv f.types, obv f.objs]) g.H g.x (L5 ++ ((f.types.drop 7).take (g.i - 7)).flatMap tyI) (37 + 330 * (g.i - 7))) ⟨7, H5, x5⟩ (Wk.slots (by rw [hS2]; exact WkL.tail 7 _ rfl (by simp only [List.take_succ_cons, List.take_zero]; repeat' first | exact WkL.nil | refine WkL.cons (Wk1.rfl _) ?_ | refine WkL.cons Wk1.esl ?_ | refine WkL.cons (Wk1.gsl _ _ _) ?_ | refine WkL.cons (Wk1.any _) ?_))) ⟨Nat.le_refl _, by show 7 ≤ f.types.length; omega, q5⟩ (fun g hg => ?_)
 obtain ⟨i, G5, y5⟩ := g
 obtain ⟨hlo, hi, hI5⟩ := hg
 simp only at hlo hi hI5
 have u5 := hI5.t
 by_cases hi3 : i < f.types.length
 ·obtain ⟨e, he⟩ : ∃ e, f.types[i]? = some e := ⟨_, List.getElem?_eq_getElem hi3⟩
  have hem : e ∈ f.types := List.mem_of_getElem? he
  have he2 : (f.types.drop 7)[(i - 7)]? = some e := by rw [List.getElem?_drop, Nat.add_sub_cancel' hlo]; exact he
  have hsuc : (i + 1 - 7) = (i - 7) + 1 := by omega
  have hia := iaA_ty (t := f.types) (a := i) (by omega) (by omega)
  rw [tyAt, show ((i : Nat) : Int).toNat = i from rfl, List.getD_eq_getElem?_getD, he, Option.getD_some] at hia
  have hfe := hfp e hem
  have ss0 := hI5
  have hav : e.av = .agg [iv e.form, sv e.mod, sv e.name, iv e.len, iv e.elem, iv e.base, fdv e.fields, pmv e.params, iv e.result, iv e.desc] := rfl
  simp (maxSteps := 2000000) (disch := omega) only [hS2, c28l1, hia, Ty.c, u5, List.length_map, go_sem, seval, reduceCtorEq]
  refine Cont.rel (ss0.tyR (by omega) e hfe.1 hfe.2) ?_
  rintro v Hz ⟨rfl, xz, hz⟩
  have tz := hz.t
  simp (maxSteps := 2000000) (disch := omega) only [tz, List.length_map, go_sem, seval, reduceCtorEq]
  refine Nxt.mk ⟨i + 1, Hz, xz⟩ (by show f.types.length - (i + 1) < f.types.length - i; omega) (Wk.slots (by rw [hS2]; exact WkL.tail 7 _ rfl (by simp only [List.take_succ_cons, List.take_zero]; repeat' first | exact WkL.nil | refine WkL.cons (Wk1.rfl _) ?_ | refine WkL.cons Wk1.esl ?_ | refine WkL.cons (Wk1.gsl _ _ _) ?_ | refine WkL.cons (Wk1.any _) ?_))) ⟨by show 7 ≤ i + 1; omega, hi3, ?_⟩
  show QS _ _ _ _ _ Hz xz (L5 ++ ((f.types.drop 7).take ((i + 1 - 7))).flatMap tyI) (37 + 330 * ((i + 1 - 7)))
  rw [hsuc, flat_s tyI (f.types.drop 7) he2, ← List.append_assoc]
  exact QS.eqL (hz.up (by omega)) (by simp only [List.append_assoc, List.cons_append, List.nil_append])
 have hin : i = f.types.length := by omega
 subst hin
 rw [List.take_of_length_le (by rw [List.length_drop]; exact Nat.le_refl _)] at hI5
 have hs5 := hI5
 simp (maxSteps := 2000000) (disch := omega) only [hS2, c28l1, u5, List.length_map, go_sem, seval, reduceCtorEq]
 refine Cont.rel (hs5.num (by omega) _) ?_
 rintro v H6 ⟨rfl, x6, hs6⟩
 have t6 := hs6.t
 simp (maxSteps := 2000000) (disch := omega) only [t6, List.length_map, go_sem, seval, reduceCtorEq]
 obtain ⟨S3, hS3⟩ : ∃ S3 : QG → List AV, ∀ g, S3 g = [.any, .ptr H.length 0, .any, .any, .ptr (H.length + 1) 0, .any, .any] ++ [iv g.i] ++ List.replicate 116 .any := ⟨_, fun _ => rfl⟩
 obtain ⟨L6, hL6⟩ : ∃ L, L = L5 ++ (f.types.drop 7).flatMap tyI ++ [iN f.objs.length] := ⟨_, rfl⟩
 have q6 : QS K (WF (H.length + 1) .esl) (H.length + 1) H.length (.cells [sv f.name, wv f.key, usv f.uses, tv f.types, obv f.objs]) H6 x6 (L6 ++ (f.objs.take 0).flatMap obI) (85000 + 7 * 0) := by
  rw [List.take_zero, List.flatMap_nil, List.append_nil, hL6]
  exact hs6.up (by omega)
 refine W.loopG (γ := QG) (fun g => f.objs.length - g.i) S3 (fun g => g.H) (fun g => g.i ≤ f.objs.length ∧ QS K (WF (H.length + 1) .esl) (H.length + 1) H.length (.cells [sv f.name, wv f.key, usv f.uses, tv f.types, obv f.objs]) g.H g.x (L6 ++ (f.objs.take g.i).flatMap obI) (85000 + 7 * g.i)) ⟨0, H6, x6⟩ (Wk.slots (by rw [hS3]; exact WkL.tail 8 _ rfl (by simp only [List.take_succ_cons, List.take_zero]; repeat' first | exact WkL.nil | refine WkL.cons (Wk1.rfl _) ?_ | refine WkL.cons Wk1.esl ?_ | refine WkL.cons (Wk1.gsl _ _ _) ?_ | refine WkL.cons (Wk1.any _) ?_))) ⟨by show 0 ≤ f.objs.length; omega, q6⟩ (fun g hg => ?_)
 obtain ⟨i, G6, y6⟩ := g
 obtain ⟨hi, hI6⟩ := hg
 simp only at hi hI6
 have u6 := hI6.t
 by_cases hi3 : i < f.objs.length
 ·obtain ⟨e, he⟩ : ∃ e, f.objs[i]? = some e := ⟨_, List.getElem?_eq_getElem hi3⟩
  have hem : e ∈ f.objs := List.mem_of_getElem? he
  have he2 : f.objs[i]? = some e := by exact he
  have hsuc : i + 1 = i + 1 := by omega
  have hia := iaA_ob (t := f.objs) (a := i) (by omega) (by omega)
  rw [obAt, show ((i : Nat) : Int).toNat = i from rfl, List.getD_eq_getElem?_getD, he, Option.getD_some] at hia
  obtain ⟨G0, hG0⟩ : ∃ G0, G6 ++ [ABlk.cells [iv e.cls, sv e.name, iv e.typ, iv e.val.form, iv e.val.n, sv e.val.text, iv e.n]] = G0 := ⟨_, rfl⟩
  have ss0 := hI6.new (.cells [iv e.cls, sv e.name, iv e.typ, iv e.val.form, iv e.val.n, sv e.val.text, iv e.n])
  rw [hG0] at ss0
  have r0 := ss0.t
  have gb : ∀ k, (G6 ++ [k])[G6.length]? = some k := fun k => List.getElem?_concat_length
  have gs : ∀ k k', (G6 ++ [k]).set G6.length k' = G6 ++ [k'] := fun k k' => by rw [List.set_append_right _ _ (Nat.le_refl _), Nat.sub_self]; rfl
  simp (maxSteps := 2000000) (disch := omega) only [hS3, c28l0, hia, Ob.c, u6, gb, gs, hG0, r0, List.length_map, go_sem, seval, reduceCtorEq]
  refine Cont.rel (ss0.byte (by omega) _) ?_
  rintro v J1 ⟨rfl, z1, ss1⟩
  have r1 := ss1.t
  simp (maxSteps := 2000000) (disch := omega) only [r1, hia, List.length_map, go_sem, seval, reduceCtorEq]
  refine Cont.rel (ss1.text (by omega) _) ?_
  rintro v J2 ⟨rfl, z2, ss2⟩
  have r2 := ss2.t
  simp (maxSteps := 2000000) (disch := omega) only [r2, hia, List.length_map, go_sem, seval, reduceCtorEq]
  refine Cont.rel (ss2.num (by omega) _) ?_
  rintro v J3 ⟨rfl, z3, ss3⟩
  have r3 := ss3.t
  simp (maxSteps := 2000000) (disch := omega) only [r3, hia, List.length_map, go_sem, seval, reduceCtorEq]
  refine Cont.rel (ss3.byte (by omega) _) ?_
  rintro v J4 ⟨rfl, z4, ss4⟩
  have r4 := ss4.t
  simp (maxSteps := 2000000) (disch := omega) only [r4, hia, List.length_map, go_sem, seval, reduceCtorEq]
  refine Cont.mk (numberR_c e.val _) ?_
  simp (maxSteps := 2000000) (disch := omega) only [go_sem, seval, reduceCtorEq]
  refine Cont.rel (ss4.num (by omega) _) ?_
  rintro v J5 ⟨rfl, z5, ss5⟩
  have r5 := ss5.t
  simp (maxSteps := 2000000) (disch := omega) only [r5, hia, List.length_map, go_sem, seval, reduceCtorEq]
  refine Cont.rel (ss5.text (by omega) _) ?_
  rintro v J6 ⟨rfl, z6, ss6⟩
  have r6 := ss6.t
  simp (maxSteps := 2000000) (disch := omega) only [r6, hia, List.length_map, go_sem, seval, reduceCtorEq]
  refine Cont.rel (ss6.num (by omega) _) ?_
  rintro v Hz ⟨rfl, xz, hz⟩
  have tz := hz.t
  simp (maxSteps := 2000000) (disch := omega) only [tz, List.length_map, go_sem, seval, reduceCtorEq]
  rw [← hG0] at hz
  have hz := hI6.back hz
  refine Nxt.mk ⟨i + 1, Hz, xz⟩ (by show f.objs.length - (i + 1) < f.objs.length - i; omega) (Wk.slots (by rw [hS3]; exact WkL.tail 8 _ rfl (by simp only [List.take_succ_cons, List.take_zero]; repeat' first | exact WkL.nil | refine WkL.cons (Wk1.rfl _) ?_ | refine WkL.cons Wk1.esl ?_ | refine WkL.cons (Wk1.gsl _ _ _) ?_ | refine WkL.cons (Wk1.any _) ?_))) ⟨hi3, ?_⟩
  show QS _ _ _ _ _ Hz xz (L6 ++ (f.objs.take (i + 1)).flatMap obI) (85000 + 7 * (i + 1))
  rw [hsuc, flat_s obI f.objs he2, ← List.append_assoc]
  exact QS.eqL (hz.up (by omega)) (by simp only [obI, List.append_assoc, List.cons_append, List.nil_append])
 have hin : i = f.objs.length := by omega
 subst hin
 rw [List.take_of_length_le (by omega)] at hI6
 have hs6 := hI6
 simp (maxSteps := 2000000) (disch := omega) only [hS3, c28l0, u6, List.length_map, go_sem, seval, reduceCtorEq]
 have hL : L6 ++ f.objs.flatMap obI = encI f := by
  rw [hL6, hL5, hL4, encI, ltl, show ((f.types.length - 7 : Nat) : Int) = (f.types.length : Int) - 7 by omega]
  simp only [List.append_assoc, List.cons_append, List.nil_append]
 rw [hL] at hs6
 obtain ⟨sp, hq, hsp⟩ := hs6.w
 have hpre : H <+: G6 := by
  refine pre_of (by have := hs6.c.len; omega) fun b hb => ?_
  have e1 : b ∉ WF (H.length + 1) AV.esl := by simp [WF, rowB]; omega
  rw [hs6.c.out b (by omega) e1, ← hK, List.getElem?_append_left hb]
 have hfe : (if sp = true then [sv nl, iv 1] else if 131072 < (itsB (encI f)).length then [sv nl, iv 2] else [sv ⟨(itsB (encI f)).toArray⟩, iv 0]) = fileF (encI f) := by
  rw [fileF]
  by_cases h : sp = true
  ·rw [if_pos h, if_pos (hsp.1 h)]
  ·rw [if_neg h, if_neg fun h' => h (hsp.2 h')]
 refine Cont.mk (bytesQ_c hq) ?_
 rw [hfe]
 obtain ⟨a, b, hab⟩ : ∃ a b, fileF (encI f) = [sv a, iv b] := by
  unfold fileF; split
  ·exact ⟨_, _, rfl⟩
  ·split <;> exact ⟨_, _, rfl⟩
 rw [hab]
 simp (maxSteps := 2000000) (disch := omega) only [go_sem, seval, reduceCtorEq]
 exact Ret.pre _ H hpre (Nat.le_refl _) hcl (.rfl _) (by simp [refs, refs.refsL]) ⟨rfl, rfl⟩
theorem encodeR_c {f : Fc} (hf : FIn f) (hs : Small f.types) (hk : 0 ≤ f.key ∧ f.key < 4294967296) (huk : ∀ u ∈ f.uses, 0 ≤ u.key ∧ u.key < 4294967296) (H : List ABlk) : ACalls Try.prog 28 [f.av] H fun v H' => v = .tup (encV f) ∧ H' = H := by
 by_cases h : FaceP f
 ·rw [encV, if_pos h]; exact encodeR_yes hf hs h hk huk H
 ·rw [encV, if_neg h]; exact encodeR_no hf hs h H
theorem keyR_c {f : Fc} (hf : FIn f) (hs : Small f.types) (huk : ∀ u ∈ f.uses, 0 ≤ u.key ∧ u.key < 4294967296) (H : List ABlk) : ACalls Try.prog 30 [f.av] H fun v H' => v = .tup (keyV f) ∧ H' = H := by
 refine ACalls.into Try.func30 cc30 rr30 fun hcl => ?_
 have he := encodeR_c (keyF_in hf 0) (f := keyF f 0) hs ⟨Int.le_refl 0, by show (0 : Int) < _; decide⟩ huk
 obtain ⟨s, e, hse, hz⟩ := encV_two (keyF f 0)
 have hkv : keyV f = if e = 0 then [wv (max (hashL s.data.toList) 1), iv 0] else [wv 0, iv e] := by rw [keyV, hse]
 rw [hse] at he
 have out : ∀ (u : List AV) {l : List ABlk}, AV.tup u = AV.tup (keyV f) → Ret r30 H.length (fun v H' => v = .tup (keyV f) ∧ H' = H) (some (.tup u)) (H ++ l) := fun u {l} h =>
  Ret.drop _ H (Nat.le_refl _) hcl (.rfl _) (by rw [h]; obtain ⟨a, b, hab⟩ := keyV_two f; rw [hab]; simp [refs, refs.refsL]) ⟨h, rfl⟩
 rw [hkv] at out
 simp (maxSteps := 2000000) (disch := omega) only [Try.ntmps30, c30, r30, Fc.cs, go_sem, seval, reduceCtorEq]
 refine Cont.mk (he _) ?_
 rw [hkv]
 by_cases h0 : e = 0
 ·rw [if_pos h0] at out ⊢
  subst h0
  simp (maxSteps := 2000000) (disch := omega) only [go_sem, seval, reduceCtorEq]
  refine Cont.mk (hashR_c s hz _) ?_
  simp (maxSteps := 2000000) (disch := omega) only [go_sem, seval, reduceCtorEq]
  exact out _ rfl
 ·rw [if_neg h0] at out ⊢
  simp (maxSteps := 2000000) (disch := omega) only [h0, go_sem, seval, reduceCtorEq]
  exact out _ rfl
end Go.Proofs.Ythifjndenhjobaa.Rid
