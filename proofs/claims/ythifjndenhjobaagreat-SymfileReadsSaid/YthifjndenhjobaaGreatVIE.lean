/- The program: is it an interface, but for its records' numbers? The modules. -/
import Derived.Test.YthifjndenhjobaaGreatVI0
set_option linter.unusedSectionVars false
set_option linter.unusedSimpArgs false
set_option linter.unusedVariables false
set_option maxHeartbeats 4000000
set_option maxRecDepth 20000
namespace Go.Proofs.YthifjndenhjobaaGreat
open Go.RowKit
def c73 : AC :=
 sr [im 2 kF]
 (sr [im 3 t0, ic 4 85 [t3], im 2 t4]
 (.ret))
def r73 : List RC := [.t 2]
theorem cc73 : cK Tryz.f73 (hh 73) c73 := by unfold cK; kernel_rfl
theorem rr73 : resC Tryz.prog Tryz.f73 = some r73 := by kernel_rfl
def c60l0 : AC :=
 sr [ib 133 .lss t132 t131]
 (.seq (.cond t133 (.skip) (.exit 4))
 (.seq (.block 5 (sr [kn 134 (.ia t130 t132 7), kn 135 (.ld t134 7 true), kn 13 (.al [kz, ks, kz, kz, kz, ks, kz]), ke (.st t13 t135 7)]
 (sr [ia 136 t13 1, il 137 t136, kn 138 (.bd [ks, ks] [(0, 1, (.c ks)), (1, 1, t137)]), kn 14 (.al [ks, ks]), ke (.st t14 t138 2)]
 (.seq (.dreg [[], [], [0, 1], [2], [0, 1, 0, 1], [4], [0, 5, 3, 4, 0, 1, 2, 3, 4, 5]] [im 139 t11, kn 140 (.ld t14 2 true), kn 141 (.lk ⟨true, [.s, .s]⟩ kz t139 t140 false), ib 142 .add t141 (kc 1), kn 143 (.me ⟨true, [.s, .s]⟩ kz t139 t140), kn 144 (.ext t143 1), ke (.mes t139 t144 t142)])
 (sr [im 145 t11, kn 146 (.ld t14 2 true), kn 147 (.lk ⟨true, [.s, .s]⟩ kz t145 t146 false), ib 148 .gtr t147 (kc 1), im 149 t148, ko 150 149 (.ld t1 5 true), ko 151 149 (.ld t13 7 true), ko 152 149 (.call 74 [t150, t151]), ko 153 149 (.un .not t152), kn 154 (.pick t149 kT t153)]
 (.cond t154 (sr [im 2 kF]
 (.ret)) (.skip)))))))
 (.reg [ib 155 .add t132 (kc 1), im 132 t155])))
def c60l1 : AC :=
 sr [ib 74 .lss t73 t72]
 (.seq (.cond t74 (.skip) (.exit 2))
 (.seq (.block 3 (sr [kn 75 (.ia t71 t73 10), kn 76 (.ld t75 10 true), kn 9 (.al [kz, ks, ks, kz, kz, kz, .esl, .esl, kz, kz]), ke (.st t9 t76 10)]
 (.seq (sr [ia 77 t9 1, il 78 t77, kn 79 (.bin .neq t78 (.c ks)), im 80 t79, ky 81 80 (.mv t3), ky 82 80 (.fa t9 1), ky 83 80 (.ld t82 1 false), ky 84 80 (.bd [ks, ks] [(0, 1, t83), (1, 1, (.c ks))]), ky 85 80 (.lk ⟨true, [.s, .s]⟩ kz t81 t84 false), ky 86 80 (.bin .eql t85 (kc 0)), kn 87 (.pick t80 t86 kF), im 88 t87, ko 89 88 (.fa t9 0), ko 90 88 (.ld t89 1 false), ko 91 88 (.bin .eql t90 (kc 9)), ko 92 88 (.mv t91), ky 93 92 (.fa t9 1), ky 94 92 (.ld t93 1 false), ky 95 92 (.fa t1 0), ky 96 92 (.ld t95 1 false), ky 97 92 (.bin .neq t94 t96), ko 98 88 (.pick t92 t97 kF), ko 99 88 (.mv t98), ky 100 99 (.fa t9 9), ky 101 99 (.ld t100 1 false), ky 102 99 (.bin .lss t101 (kc 0)), ko 103 88 (.pick t99 t102 kF), kn 104 (.pick t88 kT t103)]
 (.cond t104 (sr [im 2 kF]
 (.ret)) (.skip)))
 (.seq (sr [ia 105 t9 2, il 106 t105, kn 107 (.bin .eql t106 (.c ks))]
 (.cond t107 (.exit 3) (.skip)))
 (sr [ia 108 t9 1, il 109 t108, ia 110 t9 2, il 111 t110, kn 112 (.bd [ks, ks] [(0, 1, t109), (1, 1, t111)]), ia 113 t9 0, il 114 t113, ib 115 .eql t114 (kc 9), kn 116 (.bd [ks, ks, (.d (.v (.bool false)))] [(0, 2, t112), (2, 1, t115)]), kn 10 (.al [ks, ks, (.d (.v (.bool false)))]), ke (.st t10 t116 3)]
 (.seq (.dreg [[], [], [0, 1], [2], [0, 1, 0, 1], [4], [0, 5, 3, 4, 0, 1, 2, 3, 4, 5]] [im 117 t7, kn 118 (.ld t10 3 true), kn 119 (.lk ⟨true, [.s, .s, .b]⟩ kz t117 t118 false), ib 120 .add t119 (kc 1), kn 121 (.me ⟨true, [.s, .s, .b]⟩ kz t117 t118), kn 122 (.ext t121 1), ke (.mes t117 t122 t120)])
 (sr [im 123 t7, kn 124 (.ld t10 3 true), kn 125 (.lk ⟨true, [.s, .s, .b]⟩ kz t123 t124 false), ib 126 .gtr t125 (kc 1)]
 (.cond t126 (sr [im 2 kF]
 (.ret)) (.skip)))))))))
 (.reg [ib 127 .add t73 (kc 1), im 73 t127])))
def c60l2 : AC :=
 sr [ib 46 .lss t45 t44]
 (.seq (.cond t46 (.skip) (.exit 0))
 (.seq (.block 1 (sr [kn 47 (.ia t43 t45 2), kn 48 (.ld t47 2 true), kn 5 (.al [ks, (.d (.v (.int .u32 0)))]), ke (.st t5 t48 2)]
 (sr [ia 49 t5 0, il 50 t49, kn 51 (.bd [ks, ks] [(0, 1, t50), (1, 1, (.c ks))]), kn 6 (.al [ks, ks]), ke (.st t6 t51 2)]
 (.seq (.dreg [[], [], [0, 1], [2], [0, 1, 0, 1], [4], [0, 5, 3, 4, 0, 1, 2, 3, 4, 5]] [im 52 t3, kn 53 (.ld t6 2 true), kn 54 (.lk ⟨true, [.s, .s]⟩ kz t52 t53 false), ib 55 .add t54 (kc 1), kn 56 (.me ⟨true, [.s, .s]⟩ kz t52 t53), kn 57 (.ext t56 1), ke (.mes t52 t57 t55)])
 (sr [ia 58 t5 0, il 59 t58, ic 60 72 [t59], kn 61 (.un .not t60), im 62 t61, ko 63 62 (.mv t3), ko 64 62 (.ld t6 2 true), ko 65 62 (.lk ⟨true, [.s, .s]⟩ kz t63 t64 false), ko 66 62 (.bin .gtr t65 (kc 1)), kn 67 (.pick t62 kT t66)]
 (.cond t67 (sr [im 2 kF]
 (.ret)) (.skip)))))))
 (.reg [ib 68 .add t45 (kc 1), im 45 t68])))
def c60 : AC :=
 sr [kn 1 (.bx t0), im 2 kF]
 (.seq (sr [ia 15 t1 0, il 16 t15, ic 17 72 [t16], kn 18 (.un .not t17), im 19 t18, ko 20 19 (.fa t1 2), ko 21 19 (.ld t20 1 false), ko 22 19 (.len false t21), ko 23 19 (.bin .gtr t22 (kc 16)), kn 24 (.pick t19 kT t23), im 25 t24, ko 26 25 (.fa t1 4), ko 27 25 (.ld t26 1 false), ko 28 25 (.len false t27), ko 29 25 (.bin .gtr t28 (kc 64)), kn 30 (.pick t25 kT t29), im 31 t30, ko 32 31 (.fa t1 3), ko 33 31 (.ld t32 1 false), ko 34 31 (.call 73 [t33]), ko 35 31 (.un .not t34), kn 36 (.pick t31 kT t35)]
 (.cond t36 (sr [im 2 kF]
 (.ret)) (.skip)))
 (sr [kn 37 (.mkm ⟨true, [.s, .s]⟩), ia 38 t1 0, il 39 t38, kn 40 (.bd [ks, ks] [(0, 1, t39), (1, 1, (.c ks))]), ke (.mu ⟨true, [.s, .s]⟩ t37 t40 (kc 1)), im 41 t37, im 3 t41]
 (.seq (sr [ia 42 t1 2, il 43 t42, kn 44 (.len false t43), im 45 (kc 0)]
 (.block 0 (.loop c60l2)))
 (sr [kn 69 (.mkm ⟨true, [.s, .s, .b]⟩), im 7 t69]
 (.seq (sr [ia 70 t1 3, il 71 t70, kn 72 (.len false t71), im 73 (kc 0)]
 (.block 2 (.loop c60l1)))
 (sr [kn 128 (.mkm ⟨true, [.s, .s]⟩), im 11 t128]
 (.seq (sr [ia 129 t1 4, il 130 t129, kn 131 (.len false t130), im 132 (kc 0)]
 (.block 4 (.loop c60l0)))
 (sr [im 2 kT]
 (.ret)))))))))
def r60 : List RC := [.t 2]
theorem cc60 : cK Tryz.f60 (hhI 60) c60 := by unfold cK; kernel_rfl
theorem rr60 : resC Tryz.prog Tryz.f60 = some r60 := by kernel_rfl
def mkey (p : ByteArray × ByteArray) : Value := .agg #[.string p.1, .string p.2]
theorem mkey_eq (a b : ByteArray × ByteArray) : keq (mkey a) (mkey b) = decide (a = b) := by
 obtain ⟨a1, a2⟩ := a; obtain ⟨b1, b2⟩ := b; simp only [mkey, keq, keqL, keq1, Bool.and_true]
 by_cases h1 : a1 = b1 <;> by_cases h2 : a2 = b2 <;> simp [h1, h2]
theorem mkey_of (s n : ByteArray) : keyOf (.agg [sv s, sv n]) = some (mkey (s, n)) := rfl
abbrev ktM : KT := ⟨true, [.s, .s]⟩
theorem mkey_fits {s n : ByteArray} (h : s.size <= 140737488355328) (hn : n.size <= 140737488355328) : keyFits ktM (mkey (s, n)) = true := by
 show (kcFit .s (.string s) && (kcFit .s (.string n) && true)) = true
 rw [kc_s h, kc_s hn]; rfl
abbrev nkT := ByteArray × ByteArray × Bool
def nkey (p : nkT) : Value := .agg #[.string p.1, .string p.2.1, .bool p.2.2]
theorem nkey_eq (a b : nkT) : keq (nkey a) (nkey b) = decide (a = b) := by
 obtain ⟨a1, a2, a3⟩ := a; obtain ⟨b1, b2, b3⟩ := b; simp only [nkey, keq, keqL, keq1, Bool.and_true]
 by_cases h1 : a1 = b1 <;> by_cases h2 : a2 = b2 <;> cases a3 <;> cases b3 <;> simp [h1, h2]
abbrev ktN3 : KT := ⟨true, [.s, .s, .b]⟩
theorem nkey_fits {s n : ByteArray} {b : Bool} (h : s.size <= 140737488355328) (hn : n.size <= 140737488355328) : keyFits ktN3 (nkey (s, n, b)) = true := by
 show (kcFit .s (.string s) && (kcFit .s (.string n) && (kcFit .b (.bool b) && true))) = true
 rw [kc_s h, kc_s hn]; rfl
theorem se_sz : se.size <= 140737488355328 := by decide
theorem tgood_c {t : List Ty} (hs : Small t) (hn : FNames t) (H : List ABlk) : ACalls Tryz.prog 73 [tv t] H fun v H' => v = bv (goodF t) /\ H' = H := by
 refine ACalls.into Tryz.func73 cc73 rr73 fun hcl => ?_
 simp (disch := omega) only [Tryz.ntmps73, c73, r73, go_sem, seval, reduceCtorEq]; refine Cont.mk (good_c hs hn _) ?_; simp (disch := omega) only [go_sem, seval, reduceCtorEq]; exact Ret.keep ⟨rfl, rfl⟩
def modL (f : Fc) (i : Nat) : List (ByteArray × ByteArray) := (f.name, se) :: (f.uses.take i).map fun u => (u.name, se)
theorem modL_succ {f : Fc} {i : Nat} (h : i < f.uses.length) : modL f (i + 1) = modL f i ++ [((f.uses.getD i default).name, se)] := by
 rw [modL, modL, getD_take (d := default) h, List.map_append]; rfl
theorem modL_mem {f : Fc} {i : Nat} (h : i <= f.uses.length) (m : ByteArray) : (m, se) ∈ modL f i ↔ m = f.name \/ ∃ j, j < i /\ (f.uses.getD j default).name = m := by
 simp only [modL, List.mem_cons, List.mem_map, Prod.mk.injEq, and_true]
 constructor
 ·rintro (h1 | ⟨u, hu, rfl⟩)
  ·exact .inl h1
  ·obtain ⟨j, hj, rfl⟩ := List.getElem_of_mem hu
   rw [List.length_take] at hj; exact .inr ⟨j, by omega, by rw [gD, gE (by omega), List.getElem_take]; rfl⟩
 ·rintro (h1 | ⟨j, hj, rfl⟩)
  ·exact .inl h1
  ·refine .inr ⟨f.uses.getD j default, ?_, rfl⟩
   rw [gD, gE (by omega)]; exact List.mem_iff_getElem.2 ⟨j, by rw [List.length_take]; omega, by rw [List.getElem_take]; rfl⟩
def objL (f : Fc) (i : Nat) : List (ByteArray × ByteArray) := (f.objs.take i).map fun u => (se, u.name)
theorem objL_succ {f : Fc} {i : Nat} (h : i < f.objs.length) : objL f (i + 1) = objL f i ++ [(se, (f.objs.getD i default).name)] := by
 rw [objL, objL, getD_take (d := default) h, List.map_append]; rfl
theorem objL_mem {f : Fc} {i : Nat} (h : i <= f.objs.length) (m : ByteArray) : (se, m) ∈ objL f i ↔ ∃ j, j < i /\ (f.objs.getD j default).name = m := by
 simp only [objL, List.mem_map, Prod.mk.injEq, true_and]
 constructor
 ·rintro ⟨u, hu, rfl⟩
  obtain ⟨j, hj, rfl⟩ := List.getElem_of_mem hu; rw [List.length_take] at hj; exact ⟨j, by omega, by rw [gD, gE (by omega), List.getElem_take]; rfl⟩
 ·rintro ⟨j, hj, rfl⟩
  refine ⟨f.objs.getD j default, ?_, rfl⟩; rw [gD, gE (by omega)]; exact List.mem_iff_getElem.2 ⟨j, by rw [List.length_take]; omega, by rw [List.getElem_take]; rfl⟩
def tri (x : Ty) : nkT := (x.mod, x.name, decide (x.form = 9))
theorem same_tri {x y : Ty} : SameN x y ↔ x.name ≠ se /\ tri x = tri y := by
 simp only [SameN, tri, Prod.mk.injEq]
 constructor
 ·rintro ⟨h1, h2, h3, h4⟩
  exact ⟨h1, h2, h3, by by_cases h : x.form = 9 <;> simp [h, <- h4]⟩
 ·rintro ⟨h1, h2, h3, h4⟩
  exact ⟨h1, h2, h3, by rw [<- decide_eq_true_eq (p := x.form = 9), h4, decide_eq_true_eq]⟩
def recL (t : List Ty) : Nat -> List nkT
 | 0 => []
 | i + 1 => recL t i ++ (if (t.getD i default).name = se then [] else [tri (t.getD i default)])
theorem recL_mem {t : List Ty} : ∀ {i : Nat} {p : nkT}, p ∈ recL t i ↔ ∃ j, j < i /\ (t.getD j default).name ≠ se /\ tri (t.getD j default) = p
 | 0, p => by simp [recL]
 | i + 1, p => by
  rw [recL, List.mem_append, recL_mem (i := i)]
  constructor
  ·rintro (⟨j, hj, h⟩ | h)
   ·exact ⟨j, by omega, h⟩
   ·split at h
    ·cases h
    ·rename_i hn
     exact ⟨i, by omega, hn, (List.mem_singleton.1 h).symm⟩
  ·rintro ⟨j, hj, h1, h2⟩
   rcases Nat.lt_or_ge j i with h' | h'
   ·exact .inl ⟨j, h', h1, h2⟩
   ·have : j = i := by omega
    subst this; exact .inr (by rw [if_neg h1, h2]; simp)
structure TyTo (f : Fc) (n : Nat) : Prop where
 md : ∀ j, j < n -> ModP f (f.types.getD j default).mod
 ot : ∀ j, j < n -> (f.types.getD j default).form = 9 -> (f.types.getD j default).mod ≠ f.name -> 0 <= (f.types.getD j default).desc
 nn : ∀ j k, j < k -> k < n -> ¬ SameN (f.types.getD j default) (f.types.getD k default)
abbrev FrR (f : Fc) (H : List ABlk) (v : AV) (H' : List ABlk) : Prop := (∃ B, v = bv B /\ (B = true ↔ FrameP f)) /\ H' = H
theorem framed_c {f : Fc} (hf : FIn f) (hs : Small f.types) (H : List ABlk) : ACalls Tryz.prog 60 [f.av] H (FrR f H) := by
 refine ACalls.into Tryz.func60 cc60 rr60 fun hcl => ?_
 have hus := hf.us; have hos := hf.os; have fin : ∀ {B : Bool} {l : List ABlk}, (B = true ↔ FrameP f) -> Ret [RC.t 2] H.length (FrR f H) (some (bv B)) (H ++ l) := fun {B l} h =>
  Ret.drop _ H (Nat.le_refl _) hcl (.rfl _) (by simp [refs]) ⟨⟨B, rfl, h⟩, rfl⟩
 have no : ∀ {l : List ABlk}, ¬ FrameP f -> Ret [RC.t 2] H.length (FrR f H) (some (bv false)) (H ++ l) := fun h => fin ⟨fun h' => (by cases h'), fun h' => absurd h' h⟩
 by_cases h1 : Nm f.name
 rotate_left
 ·simp (disch := omega) only [Tryz.ntmps60, c60, r60, Fc.cs, go_sem, seval, reduceCtorEq]
  refine Cont.mk (named_c _ _) ?_; rw [nm_f h1]; simp (disch := omega) only [go_sem, seval, reduceCtorEq]; exact no fun h => h1 h.nm
 have h1' := nm_t h1
 by_cases h2 : 16 < f.uses.length
 ·simp (disch := omega) only [Tryz.ntmps60, c60, r60, Fc.cs, go_sem, seval, reduceCtorEq]
  refine Cont.mk (named_c _ _) ?_; rw [h1']; simp (disch := omega) only [lnm, go_sem, seval, reduceCtorEq]; exact no fun h => by have := h.us; omega
 by_cases h3 : 64 < f.objs.length
 ·simp (disch := omega) only [Tryz.ntmps60, c60, r60, Fc.cs, go_sem, seval, reduceCtorEq]
  refine Cont.mk (named_c _ _) ?_; rw [h1']; simp (disch := omega) only [lnm, go_sem, seval, reduceCtorEq]; exact no fun h => by have := h.os; omega
 simp (disch := omega) only [Tryz.ntmps60, c60, r60, Fc.cs, go_sem, seval, reduceCtorEq]; refine Cont.mk (named_c _ _) ?_; rw [h1']; simp (disch := omega) only [lnm, go_sem, seval, reduceCtorEq]; refine Cont.mk (tgood_c hs hf.fn _) ?_
 by_cases hg : GoodP f.types
 rotate_left
 ·rw [good_f hg]
  simp (disch := omega) only [go_sem, seval, reduceCtorEq]; exact no fun h => hg h.ty
 rw [good_t hg]; have hkf := mkey_fits hf.nm se_sz; simp (disch := omega) only [mkey_of, hkf, go_sem, seval, reduceCtorEq]; have hput : mapPut 0 [] (mkey (f.name, { data := #[] })) (AV.d (Dat.v (Value.int IntKind.i64 1))) = (1, mkK mkey 0 (modL f 0)) := rfl; simp only [hput]; have hl : ∀ i, i <= f.uses.length -> (modL f i).length = i + 1 := fun i hi => by simp [modL]; omega
 have gu : ∀ i : Nat, i < f.uses.length -> iaA (.d (.sl (f.uses.map Us.c))) (i : Int) 2 = some (.ip (f.uses.getD i default).c) := fun i hi => iaA_us (t := f.uses) (a := i) (by omega) (by omega)
 obtain ⟨S, hS⟩ : ∃ S : Nat -> List AV, ∀ i, S i = [.any, .ptr H.length 0, bv false, .mp (H.length + 1), .any, .any, .any, .any, .any, .any, .any, .any, .any, .any, .any, .any, .any, .any, .any, .any, .any, .any, .any, .any, .any, .any, .any, .any, .any, .any, .any, .any, .any, .any, .any, .any, .any, .any, .any, .any, .any, .any, .any, usv f.uses, iv f.uses.length, iv i] ++ List.replicate 110 .any := ⟨_, fun _ => rfl⟩; have hF : ∀ i, cl (H ++ [.cells f.cs, .map ktM (modL f i).length (mkK mkey 0 (modL f i))]) := fun i => hcl.append (fun k hk r hr => by
  simp only [List.mem_cons, List.not_mem_nil, or_false] at hk; rcases hk with rfl | rfl
  ·simp [ABlk.refs, refs.refsL, refs, Fc.cs] at hr
  ·rw [mkK_refs] at hr; cases hr)
 refine W.loopG (γ := Nat) (fun i => f.uses.length - i) S (fun i => H ++ [.cells f.cs, .map ktM (modL f i).length (mkK mkey 0 (modL f i))]) (fun i => i <= f.uses.length /\ UseTo f i) 0 (Wk.slots (WkL.tw 46 (hS _))) ⟨by omega, ⟨fun j hj => by omega, fun k j hk hj => by omega⟩⟩ (fun i hi => ?_); obtain ⟨q1, q2⟩ := hi; simp (disch := omega) only [c60l2, hS, Fc.cs, lnm, go_sem, seval, reduceCtorEq]; refine Br.dec (fun hc => ?_) (fun hc => ?_) <;> simp (disch := omega) only [go_sem, seval, reduceCtorEq]
 ·have gi := gu i (by omega)
  have hin := hf.un _ (usAt_mem (l := f.uses) (i := i) (by omega)); have hms := modL_succ (f := f) (i := i) (by omega); have hmm := modL_mem (f := f) (i := i) (by omega) (f.uses.getD i default).name
  generalize hx : f.uses.getD i default = x at *
  have hkx := mkey_fits hin se_sz; simp (disch := omega) only [gi, Us.c, go_sem, seval, reduceCtorEq]
  by_cases hm : (x.name, se) ∈ modL f i
  ·have hbad : ¬ FrameP f := fun h => by
    rcases hmm.1 hm with e | ⟨j, hj, e⟩
    ·have := (h.use.nm i (by omega)).2; rw [hx] at this; exact this e
    ·exact h.use.nd j i hj (by omega) (by rw [hx]; exact e)
   obtain ⟨c, es2, g1, _, g3, g4⟩ := mkK_yes (f := mkey) mkey_eq (s := (x.name, se)) (iv 2) (n := 0) hm; refine W.dregM 2 (H.length + 1) 54 55 56 57 52 53 ktM (iv 0) (iv 1) (iv 2) (iv 1) (modL f i).length (modL f i).length c (mkey (x.name, se)) (mkK mkey 0 (modL f i)) (mkK mkey 0 (modL f i)) es2 rfl follows (by decide +kernel) rfl (by decide +kernel) (by decide) (by rw [List.getElem?_append_right (by omega)]; simp) hkx (by rw [mkey_eq]; simp) (.inl ⟨g1, rfl, rfl⟩) rfl g3 rfl ?_; simp (disch := omega) only [List.take_succ_cons, List.take_zero, go_sem, seval, reduceCtorEq]; refine ⟨rfl, rfl, rfl, rfl, rfl, rfl, ?_⟩; simp (disch := omega) only [go_sem, seval, reduceCtorEq]; refine Cont.mk (named_c _ _) ?_
   by_cases b1 : Nm x.name
   ·rw [nm_t b1]
    simp (disch := omega) only [mkey_of, hkx, mapOf, g4, go_sem, seval, reduceCtorEq]; exact no hbad
   ·rw [nm_f b1]
    simp (disch := omega) only [go_sem, seval, reduceCtorEq]; exact no hbad
  ·have g1 := mkK_no (f := mkey) mkey_eq (s := (x.name, se)) (n := 0) hm
   have g3 := mkK_new (f := mkey) mkey_eq (s := (x.name, se)) (modL f i) (iv 0) 0 (modL f i).length (by omega); obtain ⟨c, _, g4, _⟩ := mkK_yes (f := mkey) mkey_eq (s := (x.name, se)) (iv 2) (n := 0) (l := modL f i ++ [(x.name, se)]) (by simp); refine W.dregM 2 (H.length + 1) 54 55 56 57 52 53 ktM (iv 0) (iv 0) (iv 1) (iv 1) (modL f i).length ((modL f i).length + 1) (modL f i).length (mkey (x.name, se)) (mkK mkey 0 (modL f i)) (mkK mkey 0 (modL f i) ++ [(mkey (x.name, se), iv 0, (modL f i).length)]) (mkK mkey 0 (modL f i ++ [(x.name, se)])) rfl follows (by decide +kernel) rfl (by decide +kernel) (by decide) (by rw [List.getElem?_append_right (by omega)]; simp) hkx (by rw [mkey_eq]; simp) (.inr ⟨g1, rfl, rfl, rfl, rfl⟩) rfl g3 rfl ?_; have hlr : (modL f i).length + 1 = (modL f (i + 1)).length := by rw [hms]; simp
   rw [hlr, <- hms]; rw [<- hms] at g4; simp (disch := omega) only [List.take_succ_cons, List.take_zero, go_sem, seval, reduceCtorEq]; refine ⟨rfl, rfl, rfl, rfl, rfl, rfl, ?_⟩; simp (disch := omega) only [go_sem, seval, reduceCtorEq]; refine Cont.mk (named_c _ _) ?_
   by_cases b1 : Nm x.name
   ·rw [nm_t b1]
    simp (disch := omega) only [mkey_of, hkx, mapOf, g4, go_sem, seval, reduceCtorEq]; rw [show ∀ (A : List ABlk) (p q r u : ABlk), A ++ [p, q, r, u] = (A ++ [p, q]) ++ [r, u] from fun A p q r u => by simp]; refine Nxt.mk (i + 1) (by omega) (Wk.drop (WkL.tw 46 (hS _)) (by simp) (hF (i + 1)) (by rw [hS]; simp [refs.refsL, refs])) ⟨by omega, ⟨fun j hj => ?_, fun k2 j hk2 hj => ?_⟩⟩
    ·rcases Nat.lt_or_ge j i with h' | h'
     ·exact q2.nm j h'
     ·rw [show j = i by omega, hx]; exact ⟨b1, fun e => hm (hmm.2 (.inl e))⟩
    ·rcases Nat.lt_or_ge j i with h' | h'
     ·exact q2.nd k2 j hk2 h'
     ·rw [show j = i by omega, hx]; exact fun e => hm (hmm.2 (.inr ⟨k2, by omega, e⟩))
   ·rw [nm_f b1]
    simp (disch := omega) only [go_sem, seval, reduceCtorEq]; exact no fun h => b1 (by have := (h.use.nm i (by omega)).1; rwa [hx] at this)
 ·have hi : i = f.uses.length := by omega
  subst hi; have qU := q2; have hmods : ∀ m, (m, se) ∈ modL f f.uses.length ↔ m = f.name \/ ∃ u ∈ f.uses, u.name = m := fun m => by
   rw [modL_mem (Nat.le_refl _)]
   constructor
   ·rintro (h | ⟨j, hj, h⟩)
    ·exact .inl h
    ·exact .inr ⟨_, usAt_mem hj, h⟩
   ·rintro (h | ⟨u, hu, h⟩)
    ·exact .inl h
    ·obtain ⟨j, hj, rfl⟩ := List.getElem_of_mem hu
     exact .inr ⟨j, hj, by rw [gD, gE hj]; exact h⟩
  clear hS S gu hF
  generalize modL f f.uses.length = M at *
  have gt : ∀ i : Nat, i < f.types.length -> iaA (.d (.sl (f.types.map Ty.c))) (i : Int) 10 = some (.ip (f.types.getD i default).c) := fun i hi => iaA_ty (t := f.types) (a := i) (by omega) (by omega)
  have htl := hf.ty.1; obtain ⟨S, hS⟩ : ∃ S : Nat -> List AV, ∀ i, S i = [.any, .ptr H.length 0, bv false, .mp (H.length + 1), .any, .any, .any, .mp (H.length + 2), .any, .any, .any, .any, .any, .any, .any, .any, .any, .any, .any, .any, .any, .any, .any, .any, .any, .any, .any, .any, .any, .any, .any, .any, .any, .any, .any, .any, .any, .any, .any, .any, .any, .any, .any, .any, .any, .any, .any, .any, .any, .any, .any, .any, .any, .any, .any, .any, .any, .any, .any, .any, .any, .any, .any, .any, .any, .any, .any, .any, .any, .any, .any, tv f.types, iv f.types.length, iv i] ++ List.replicate 82 .any := ⟨_, fun _ => rfl⟩; have hF : ∀ i, cl (H ++ [.cells f.cs, .map ktM M.length (mkK mkey 0 M), .map ktN3 (recL f.types i).length (mkK nkey 0 (recL f.types i))]) := fun i => hcl.append (fun k hk r hr => by
   simp only [List.mem_cons, List.not_mem_nil, or_false] at hk; rcases hk with rfl | rfl | rfl
   ·simp [ABlk.refs, refs.refsL, refs, Fc.cs] at hr
   ·rw [mkK_refs] at hr; cases hr
   ·rw [mkK_refs] at hr; cases hr)
  refine W.loopG (γ := Nat) (fun i => f.types.length - i) S (fun i => H ++ [.cells f.cs, .map ktM M.length (mkK mkey 0 M), .map ktN3 (recL f.types i).length (mkK nkey 0 (recL f.types i))]) (fun i => i <= f.types.length /\ TyTo f i) 0 (Wk.slots (WkL.tw 74 (hS _))) ⟨by omega, ⟨fun j hj => by omega, fun j hj => by omega, fun k j hk hj => by omega⟩⟩ (fun i hi => ?_); obtain ⟨q1, q2'⟩ := hi; simp (disch := omega) only [c60l1, hS, Fc.cs, lnm, go_sem, seval, reduceCtorEq]; refine Br.dec (fun hc => ?_) (fun hc => ?_) <;> simp (disch := omega) only [go_sem, seval, reduceCtorEq]
  ·have gi := gt i (by omega)
   have hok := hf.ty.at_ (a := (i : Int)) (by omega) (by omega); have hrl : recL f.types (i + 1) = recL f.types i ++ (if (f.types.getD i default).name = se then [] else [tri (f.types.getD i default)]) := rfl; have hrm := recL_mem (t := f.types) (i := i) (p := tri (f.types.getD i default)); rw [show tyAt f.types (i : Int) = f.types.getD i default from rfl] at hok
   generalize hx : f.types.getD i default = x at *
   have hkm := mkey_fits hok.m se_sz
   -- the end of a round
   have nxt : ∀ {s' : List AV} {R : List nkT} {ck : Nat} {l : List ABlk}, recL f.types (i + 1) = R -> ck = R.length -> ModP f x.mod -> (x.form = 9 -> x.mod ≠ f.name -> 0 <= x.desc) -> (x.name ≠ se -> tri x ∉ recL f.types i) -> WkL s' (S (i + 1)) ->
    Nxt H.length (fun i => f.types.length - i) S (fun i => H ++ [.cells f.cs, .map ktM M.length (mkK mkey 0 M), .map ktN3 (recL f.types i).length (mkK nkey 0 (recL f.types i))]) (fun i => i <= f.types.length /\ TyTo f i) (f.types.length - i) s' ((H ++ [.cells f.cs, .map ktM M.length (mkK mkey 0 M), .map ktN3 ck (mkK nkey 0 R)]) ++ l) := fun {s' R ck l} e e2 hM hO hN hk => by
    subst e; subst e2; refine Nxt.mk (i + 1) (by omega) (Wk.drop hk (by simp) (hF (i + 1)) (by rw [hS]; simp [refs.refsL, refs])) ⟨by omega, ⟨fun j hj => ?_, fun j hj => ?_, fun j k hjk hk => ?_⟩⟩
    ·rcases Nat.lt_or_ge j i with h' | h'
     ·exact q2'.md j h'
     ·rw [show j = i by omega, hx]; exact hM
    ·rcases Nat.lt_or_ge j i with h' | h'
     ·exact q2'.ot j h'
     ·rw [show j = i by omega, hx]; exact hO
    ·rcases Nat.lt_or_ge k i with h' | h'
     ·exact q2'.nn j k hjk h'
     ·rw [show k = i by omega, hx]
      intro hs
      have hs := same_tri.1 hs.symm; exact hN hs.1 (hrm.2 ⟨j, by omega, same_tri.1 ((same_tri.2 hs).symm) |>.1, hs.2.symm⟩)
   have badM : ¬ ModP f x.mod -> ¬ FrameP f := fun h k => h (by have := k.md i (by omega); rwa [hx] at this)
   have badO : x.form = 9 -> x.mod ≠ f.name -> x.desc < 0 -> ¬ FrameP f := fun h1 h2 h3 k => by have := k.oth i (by omega); rw [hx] at this; have := this h1 h2; omega
   have badN : x.name ≠ se -> tri x ∈ recL f.types i -> ¬ FrameP f := fun h1 h2 k => by
    obtain ⟨j, hj, h3, h4⟩ := hrm.1 h2; exact k.nn j i hj (by omega) (by rw [hx]; exact same_tri.2 ⟨h3, h4⟩)
   -- the module
   have hsM : (decide (x.mod = se) = false /\ (x.mod, se) ∉ M /\ mapGet (mkK mkey 0 M) (mkey (x.mod, se)) = none) \/ (decide (x.mod = se) = false /\ ModP f x.mod /\ ∃ c, mapGet (mkK mkey 0 M) (mkey (x.mod, se)) = some (iv 1, c)) \/ (decide (x.mod = se) = true /\ ModP f x.mod /\ ∃ c : Nat, c = 0) := by
    cases b0 : decide (x.mod = se) with
    | true => exact .inr (.inr ⟨rfl, .inl (of_decide_eq_true b0), 0, rfl⟩)
    | false =>
     by_cases hm : (x.mod, se) ∈ M
     ·obtain ⟨c, _, g1, _⟩ := mkK_yes (f := mkey) mkey_eq (s := (x.mod, se)) (iv 2) (n := 0) hm
      exact .inr (.inl ⟨rfl, .inr ((hmods _).1 hm), c, g1⟩)
     ·exact .inl ⟨rfl, hm, mkK_no (f := mkey) mkey_eq (s := (x.mod, se)) (n := 0) hm⟩
   have hsO : (decide (x.form = 9) = true /\ decide (x.mod = f.name) = false /\ x.desc < 0) \/ (decide (x.form = 9) = true /\ decide (x.mod = f.name) = false /\ ¬ x.desc < 0) \/ (decide (x.form = 9) = true /\ decide (x.mod = f.name) = true /\ True) \/ (decide (x.form = 9) = false /\ decide (x.form = 9) = false /\ True) := by
    cases decide (x.form = 9) <;> cases decide (x.mod = f.name) <;> by_cases h : x.desc < 0 <;> simp [h]
   rcases hsM with ⟨b0, hm, g1⟩ | ⟨b0, hM, c0, g1⟩ | ⟨b0, hM, c0, g1⟩
   ·simp (disch := omega) only [gi, Ty.c, Ty.cs, b0, mkey_of, hkm, mapOf, g1, go_sem, seval, reduceCtorEq]
    exact no (badM fun h => by
     rcases h with h | h | h
     ·exact of_decide_eq_false b0 h
     ·exact hm ((hmods _).2 (.inl h))
     ·exact hm ((hmods _).2 (.inr h)))
   all_goals (
    rcases hsO with ⟨h9, h8, h7⟩ | ⟨h9, h8, h7⟩ | ⟨h9, h8, h7⟩ | ⟨h9, h8, h7⟩
    ·simp (disch := omega) only [gi, Ty.c, Ty.cs, b0, mkey_of, hkm, mapOf, g1, h9, h8, go_sem, seval, reduceCtorEq]
     exact no (badO (of_decide_eq_true h9) (of_decide_eq_false h8) h7)
    all_goals (
     have hO : x.form = 9 -> x.mod ≠ f.name -> 0 <= x.desc := fun k1 k2 => by
      first
       | omega
       | exact absurd (of_decide_eq_true h8) k2
       | exact absurd k1 (of_decide_eq_false h9)
     simp (disch := omega) only [gi, Ty.c, Ty.cs, b0, mkey_of, hkm, mapOf, g1, h9, h8, go_sem, seval, reduceCtorEq]; have hkn : keyFits ktN3 (nkey (tri x)) = true := nkey_fits hok.m hok.n; have hko : keyOf (.agg [sv x.mod, sv x.name, bv (decide (x.form = 9))]) = some (nkey (tri x)) := rfl; rw [h9] at hko
     cases b5 : decide (x.name = se) with
     | true =>
      simp (disch := omega) only [b5, go_sem, seval, reduceCtorEq]; rw [show ∀ (A : List ABlk) (p q r u : ABlk), A ++ [p, q, r, u] = (A ++ [p, q, r]) ++ [u] from fun A p q r u => by simp]; refine nxt (R := recL f.types i) (by rw [hrl, if_pos (of_decide_eq_true b5), List.append_nil]) rfl hM hO (fun h => absurd (of_decide_eq_true b5) h) ?_; exact (WkL.tw 74 (hS _))
     | false =>
      have hne := of_decide_eq_false b5; simp (disch := omega) only [b5, Ty.cs, h9, go_sem, seval, reduceCtorEq]
      by_cases hN : tri x ∈ recL f.types i
      ·obtain ⟨c, es2, g2, _, g3, g4⟩ := mkK_yes (f := nkey) nkey_eq (s := tri x) (iv 2) (n := 0) hN
       refine W.dregM 2 (H.length + 2) 119 120 121 122 117 118 ktN3 (iv 0) (iv 1) (iv 2) (iv 1) (recL f.types i).length (recL f.types i).length c (nkey (tri x)) (mkK nkey 0 (recL f.types i)) (mkK nkey 0 (recL f.types i)) es2 rfl follows (by decide +kernel) rfl (by decide +kernel) (by decide) (by rw [List.getElem?_append_right (by omega), Nat.add_sub_cancel_left]; rfl) hkn (by rw [nkey_eq]; simp) (.inl ⟨g2, rfl, rfl⟩) rfl g3 rfl ?_; simp (disch := omega) only [List.take_succ_cons, List.take_zero, go_sem, seval, reduceCtorEq]; refine ⟨rfl, hko, rfl, rfl, rfl, rfl, ?_⟩; simp (disch := omega) only [hko, hkn, mapOf, g4, go_sem, seval, reduceCtorEq]; exact no (badN hne hN)
      ·have g2 := mkK_no (f := nkey) nkey_eq (s := tri x) (n := 0) hN
       have g3 := mkK_new (f := nkey) nkey_eq (s := tri x) (recL f.types i) (iv 0) 0 (recL f.types i).length (by omega); obtain ⟨c, _, g4, _⟩ := mkK_yes (f := nkey) nkey_eq (s := tri x) (iv 2) (n := 0) (l := recL f.types i ++ [tri x]) (by simp); refine W.dregM 2 (H.length + 2) 119 120 121 122 117 118 ktN3 (iv 0) (iv 0) (iv 1) (iv 1) (recL f.types i).length ((recL f.types i).length + 1) (recL f.types i).length (nkey (tri x)) (mkK nkey 0 (recL f.types i)) (mkK nkey 0 (recL f.types i) ++ [(nkey (tri x), iv 0, (recL f.types i).length)]) (mkK nkey 0 (recL f.types i ++ [tri x])) rfl follows (by decide +kernel) rfl (by decide +kernel) (by decide) (by rw [List.getElem?_append_right (by omega), Nat.add_sub_cancel_left]; rfl) hkn (by rw [nkey_eq]; simp) (.inr ⟨g2, rfl, rfl, rfl, rfl⟩) rfl g3 rfl ?_; simp (disch := omega) only [List.take_succ_cons, List.take_zero, go_sem, seval, reduceCtorEq]; refine ⟨rfl, hko, rfl, rfl, rfl, rfl, ?_⟩; simp (disch := omega) only [hko, hkn, mapOf, g4, go_sem, seval, reduceCtorEq]; rw [show ∀ (A : List ABlk) (p q r u v : ABlk), A ++ [p, q, r, u, v] = (A ++ [p, q, r]) ++ [u, v] from fun A p q r u v => by simp]; refine nxt (R := recL f.types i ++ [tri x]) (by rw [hrl, if_neg hne]) (by simp) hM hO (fun _ => hN) ?_; exact (WkL.tw 74 (hS _))))
  ·have qT : TyTo f f.types.length := by rw [show f.types.length = i by omega]; exact q2'
   clear hS S gt hF
   generalize recL f.types i = R
   have go : ∀ i : Nat, i < f.objs.length -> iaA (.d (.sl (f.objs.map Ob.c))) (i : Int) 7 = some (.ip (f.objs.getD i default).c) := fun i hi => iaA_ob (t := f.objs) (a := i) (by omega) (by omega)
   have ho : ∀ i, i <= f.objs.length -> (objL f i).length = i := fun i hi => by simp [objL]; omega
   obtain ⟨S, hS⟩ : ∃ S : Nat -> List AV, ∀ i, S i = [.any, .ptr H.length 0, bv false, .any, .any, .any, .any, .any, .any, .any, .any, .mp (H.length + 3), .any, .any, .any, .any, .any, .any, .any, .any, .any, .any, .any, .any, .any, .any, .any, .any, .any, .any, .any, .any, .any, .any, .any, .any, .any, .any, .any, .any, .any, .any, .any, .any, .any, .any, .any, .any, .any, .any, .any, .any, .any, .any, .any, .any, .any, .any, .any, .any, .any, .any, .any, .any, .any, .any, .any, .any, .any, .any, .any, .any, .any, .any, .any, .any, .any, .any, .any, .any, .any, .any, .any, .any, .any, .any, .any, .any, .any, .any, .any, .any, .any, .any, .any, .any, .any, .any, .any, .any, .any, .any, .any, .any, .any, .any, .any, .any, .any, .any, .any, .any, .any, .any, .any, .any, .any, .any, .any, .any, .any, .any, .any, .any, .any, .any, .any, .any, .any, .any, obv f.objs, iv f.objs.length, iv i] ++ List.replicate 23 .any := ⟨_, fun _ => rfl⟩; have hF : ∀ i, cl (H ++ [.cells f.cs, .map ktM M.length (mkK mkey 0 M), .map ktN3 R.length (mkK nkey 0 R), .map ktM (objL f i).length (mkK mkey 0 (objL f i))]) := fun i => hcl.append (fun k hk r hr => by
    simp only [List.mem_cons, List.not_mem_nil, or_false] at hk; rcases hk with rfl | rfl | rfl | rfl
    ·simp [ABlk.refs, refs.refsL, refs, Fc.cs] at hr
    ·rw [mkK_refs] at hr; cases hr
    ·rw [mkK_refs] at hr; cases hr
    ·rw [mkK_refs] at hr; cases hr)
   refine W.loopG (γ := Nat) (fun i => f.objs.length - i) S (fun i => H ++ [.cells f.cs, .map ktM M.length (mkK mkey 0 M), .map ktN3 R.length (mkK nkey 0 R), .map ktM (objL f i).length (mkK mkey 0 (objL f i))]) (fun i => i <= f.objs.length /\ ObjTo f i) 0 (Wk.slots (WkL.tw 133 (hS _))) ⟨by omega, ⟨fun j hj => by omega, fun k j hk hj => by omega⟩⟩ (fun i hi => ?_); obtain ⟨q1, q2⟩ := hi; simp (disch := omega) only [c60l0, hS, Fc.cs, lnm, go_sem, seval, reduceCtorEq]; refine Br.dec (fun hc => ?_) (fun hc => ?_) <;> simp (disch := omega) only [go_sem, seval, reduceCtorEq]
   ·have gi := go i (by omega)
    have hin := hf.ob _ (obAt_mem (l := f.objs) (i := i) (by omega)); have hms := objL_succ (f := f) (i := i) (by omega); have hmm := objL_mem (f := f) (i := i) (by omega) (f.objs.getD i default).name
    generalize hx : f.objs.getD i default = x at *
    have hkx := mkey_fits se_sz hin.1; simp (disch := omega) only [gi, Ob.c, go_sem, seval, reduceCtorEq]
    by_cases hm : (se, x.name) ∈ objL f i
    ·have hbad : ¬ FrameP f := fun h => by
      obtain ⟨j, hj, e⟩ := hmm.1 hm; exact h.toShapeP.obj.nd j i hj (by omega) (by rw [hx]; exact e)
     obtain ⟨c, es2, g1, _, g3, g4⟩ := mkK_yes (f := mkey) mkey_eq (s := (se, x.name)) (iv 2) (n := 0) hm; refine W.dregM 2 (H.length + 3) 141 142 143 144 139 140 ktM (iv 0) (iv 1) (iv 2) (iv 1) (objL f i).length (objL f i).length c (mkey (se, x.name)) (mkK mkey 0 (objL f i)) (mkK mkey 0 (objL f i)) es2 rfl follows (by decide +kernel) rfl (by decide +kernel) (by decide) (by rw [List.getElem?_append_right (by omega), Nat.add_sub_cancel_left]; rfl) hkx (by rw [mkey_eq]; simp) (.inl ⟨g1, rfl, rfl⟩) rfl g3 rfl ?_; simp (disch := omega) only [List.take_succ_cons, List.take_zero, go_sem, seval, reduceCtorEq]; refine ⟨rfl, rfl, rfl, rfl, rfl, rfl, ?_⟩; simp (disch := omega) only [mkey_of, hkx, mapOf, g4, go_sem, seval, reduceCtorEq]; exact no hbad
    ·have g1 := mkK_no (f := mkey) mkey_eq (s := (se, x.name)) (n := 0) hm
     have g3 := mkK_new (f := mkey) mkey_eq (s := (se, x.name)) (objL f i) (iv 0) 0 (objL f i).length (by omega); obtain ⟨c, _, g4, _⟩ := mkK_yes (f := mkey) mkey_eq (s := (se, x.name)) (iv 2) (n := 0) (l := objL f i ++ [(se, x.name)]) (by simp); refine W.dregM 2 (H.length + 3) 141 142 143 144 139 140 ktM (iv 0) (iv 0) (iv 1) (iv 1) (objL f i).length ((objL f i).length + 1) (objL f i).length (mkey (se, x.name)) (mkK mkey 0 (objL f i)) (mkK mkey 0 (objL f i) ++ [(mkey (se, x.name), iv 0, (objL f i).length)]) (mkK mkey 0 (objL f i ++ [(se, x.name)])) rfl follows (by decide +kernel) rfl (by decide +kernel) (by decide) (by rw [List.getElem?_append_right (by omega), Nat.add_sub_cancel_left]; rfl) hkx (by rw [mkey_eq]; simp) (.inr ⟨g1, rfl, rfl, rfl, rfl⟩) rfl g3 rfl ?_; have hlr : (objL f i).length + 1 = (objL f (i + 1)).length := by rw [hms]; simp
     rw [hlr, <- hms]; rw [<- hms] at g4; simp (disch := omega) only [List.take_succ_cons, List.take_zero, go_sem, seval, reduceCtorEq]; refine ⟨rfl, rfl, rfl, rfl, rfl, rfl, ?_⟩; simp (disch := omega) only [mkey_of, hkx, mapOf, g4, go_sem, seval, reduceCtorEq]; refine Cont.rel (iobject_c (f := f) (o := x) (by have := hs.1; omega) hin.2.2.1 _) ?_; rintro v H' ⟨⟨B, rfl, hB⟩, rfl⟩
     cases hBv : B with
     | false =>
      simp (disch := omega) only [go_sem, seval, reduceCtorEq]; exact no fun h => by have := h.toShapeP.obj.ob i (by omega); rw [hx] at this; have := hB.2 this; rw [hBv] at this; cases this
     | true =>
      simp (disch := omega) only [go_sem, seval, reduceCtorEq]; rw [show ∀ (A : List ABlk) (p q r u v w : ABlk), A ++ [p, q, r, u, v, w] = (A ++ [p, q, r, u]) ++ [v, w] from fun A p q r u v w => by simp]; refine Nxt.mk (i + 1) (by omega) (Wk.drop (WkL.tw 133 (hS _)) (by simp) (hF (i + 1)) (by rw [hS]; simp [refs.refsL, refs])) ⟨by omega, ⟨fun j hj => ?_, fun k2 j hk2 hj => ?_⟩⟩
      ·rcases Nat.lt_or_ge j i with h' | h'
       ·exact q2.ob j h'
       ·rw [show j = i by omega, hx]; exact hB.1 hBv
      ·rcases Nat.lt_or_ge j i with h' | h'
       ·exact q2.nd k2 j hk2 h'
       ·rw [show j = i by omega, hx]; exact fun e => hm (hmm.2 ⟨k2, by omega, e⟩)
   ·rw [show i = f.objs.length by omega] at q2
    exact fin ⟨fun _ => ⟨⟨h1, by omega, by omega, hg, qT.md, qT.nn, all_at qU.nm, (nodup_at _ _).2 qU.nd, all_at q2.ob, (nodup_at _ _).2 q2.nd⟩, qT.ot⟩, fun _ => rfl⟩
end Go.Proofs.YthifjndenhjobaaGreat
