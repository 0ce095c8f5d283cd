/- What a row of items is, as bytes; the hash. -/
import Derived.Test.YthifjndenhjobaaGreatVS2
import Derived.Test.YthifjndenhjobaaGreatVI5
import Derived.Test.YthifjndenhjobaaGreatVIF
import Derived.Test.YthifjndenhjobaaGreatVFrz
set_option linter.unusedSectionVars false
set_option linter.unusedSimpArgs false
set_option linter.unusedVariables false
set_option maxHeartbeats 4000000
set_option maxRecDepth 20000
namespace Go.Proofs.YthifjndenhjobaaGreat.Rid
open Go.RowKit
def c10l0 : AC :=
 sr [ib 20 .lss t19 t18]
 (.seq (.cond t20 (.skip) (.exit 0))
 (.seq (.block 1 (sr [im 21 t19, im 7 t21]
 (.reg [im 22 t6, im 23 t4, im 24 t7, kn 25 (.ix t23 t24), kn 26 (.cvi .u32 t25), ib 27 .xor t22 t26, kn 28 (.bin .mul t27 (.c (.d (.v (.int .u32 16777619))))), im 6 t28])))
 (.reg [ib 29 .add t19 (kc 1), im 19 t29])))
def c10 : AC :=
 sr [kn 1 (.bx t0), kn 2 (.mv (.c (.d (.v (.int .u32 0))))), im 3 (kc 0)]
 (sr [ia 8 t1 1, ke (.st t8 (.c (.d (.v (.int .u32 0)))) 1)]
 (sr [kn 10 (.ld t1 5 true), ic 11 8 [t10], im 9 t11, kn 12 (.ext t9 0), kn 13 (.ext t9 1), im 4 t12, im 5 t13]
 (.seq (sr [im 14 t5, ib 15 .neq t14 (kc 0)]
 (.cond t15 (sr [im 16 t5, kn 2 (.mv (.c (.d (.v (.int .u32 0))))), im 3 t16]
 (.ret)) (.skip)))
 (sr [kn 6 (.mv (.c (.d (.v (.int .u32 2166136261)))))]
 (.seq (sr [im 17 t4, kn 18 (.len true t17), im 19 (kc 0)]
 (.block 0 (.loop c10l0)))
 (sr [im 30 t6, kn 31 (.mx [t30, (.c (.d (.v (.int .u32 1))))]), im 2 t31, im 3 (kc 0)]
 (.ret)))))))
def r10 : List RC := [.t 2, .t 3]
theorem cc10 : cK Tryz.f10 (hhW 10) c10 := by unfold cK; kernel_rfl
theorem rr10 : resC Tryz.prog Tryz.f10 = some r10 := by kernel_rfl
open Classical in
noncomputable def itB (x : It) : List UInt8 := if x.kind = 0 then byteW x.n else if x.kind = 1 then (if fit32 x.n then comp7 x.n else []) else if x.kind = 2 then wordB x.n else if textOk x.s then x.s.data.toList ++ [0] else []
def itOk (x : It) : Prop := (x.kind = 1 -> fit32 x.n) /\ (3 <= x.kind -> textOk x.s)
noncomputable def itsB (l : List It) : List UInt8 := l.flatMap itB
open Classical in
noncomputable def fileF (l : List It) : List AV := if ∃ x ∈ l, ¬ itOk x then [sv nl, iv 1] else if 131072 < (itsB l).length then [sv nl, iv 2] else [sv ⟨(itsB l).toArray⟩, iv 0]
theorem put_rel {w : Wr} {bs l : List UInt8} (ok : w.tl = decide (131072 < w.bs.length)) (t : w.tl = true -> 131072 < bs.length) (b : w.tl = false -> w.bs = bs) : (putW w l).sp = w.sp /\ ((putW w l).tl = true -> 131072 < (bs ++ l).length) /\ ((putW w l).tl = false -> (putW w l).bs = bs ++ l) /\ (putW w l).tl = decide (131072 < (putW w l).bs.length) := by
 unfold putW
 by_cases h : w.tl = true
 ·rw [if_pos h]
  refine ⟨rfl, fun _ => ?_, fun h' => absurd (h.symm.trans h') (by simp), ok⟩; have := t h; rw [List.length_append]; omega
 ·rw [if_neg h]
  have hb := b (by simpa using h); refine ⟨rfl, fun h' => ?_, fun _ => by rw [hb], rfl⟩; rw [<- hb]; exact of_decide_eq_true h'
theorem it_rel {w : Wr} {bs : List UInt8} (x : It) (ok : w.tl = decide (131072 < w.bs.length)) (t : w.tl = true -> 131072 < bs.length) (b : w.tl = false -> w.bs = bs) :
 ((itW w x).sp = true ↔ w.sp = true \/ ¬ itOk x) /\ ((itW w x).tl = true -> 131072 < (bs ++ itB x).length) /\ ((itW w x).tl = false -> (itW w x).bs = bs ++ itB x) /\ (itW w x).tl = decide (131072 < (itW w x).bs.length) := by
 have put : ∀ l, itW w x = putW w l -> itB x = l -> itOk x -> ((itW w x).sp = true ↔ w.sp = true \/ ¬ itOk x) /\ ((itW w x).tl = true -> 131072 < (bs ++ itB x).length) /\ ((itW w x).tl = false -> (itW w x).bs = bs ++ itB x) /\ (itW w x).tl = decide (131072 < (itW w x).bs.length) := fun l e1 e2 e3 => by
  obtain ⟨a, c, d, e⟩ := put_rel (l := l) ok t b; rw [e1, e2]; exact ⟨by rw [a]; exact ⟨.inl, fun h => h.elim id fun h => absurd e3 h⟩, c, d, e⟩
 have bad : itW w x = ⟨w.bs, true, w.tl⟩ -> itB x = [] -> ¬ itOk x -> ((itW w x).sp = true ↔ w.sp = true \/ ¬ itOk x) /\ ((itW w x).tl = true -> 131072 < (bs ++ itB x).length) /\ ((itW w x).tl = false -> (itW w x).bs = bs ++ itB x) /\ (itW w x).tl = decide (131072 < (itW w x).bs.length) := fun e1 e2 e3 => by
  rw [e1, e2, List.append_nil]; exact ⟨⟨fun _ => .inr e3, fun _ => rfl⟩, t, b, ok⟩
 by_cases h0 : x.kind = 0
 ·exact put (byteW x.n) (by rw [itW, if_pos h0]) (by rw [itB, if_pos h0]) ⟨fun h => by omega, fun h => by omega⟩
 by_cases h1 : x.kind = 1
 ·by_cases hf : fit32 x.n
  ·exact put (comp7 x.n) (by rw [itW, if_neg h0, if_pos h1, numW, if_pos hf]) (by rw [itB, if_neg h0, if_pos h1, if_pos hf]) ⟨fun _ => hf, fun h => by omega⟩
  ·exact bad (by rw [itW, if_neg h0, if_pos h1, numW, if_neg hf]) (by rw [itB, if_neg h0, if_pos h1, if_neg hf]) fun h => hf (h.1 h1)
 by_cases h2 : x.kind = 2
 ·exact put (wordB x.n) (by rw [itW, if_neg h0, if_neg h1, if_pos h2]) (by rw [itB, if_neg h0, if_neg h1, if_pos h2]) ⟨fun h => by omega, fun h => by omega⟩
 by_cases ht : textOk x.s
 ·exact put (x.s.data.toList ++ [0]) (by rw [itW, if_neg h0, if_neg h1, if_neg h2, textW, if_pos ht]) (by rw [itB, if_neg h0, if_neg h1, if_neg h2, if_pos ht]) ⟨fun h => by omega, fun h => ht⟩
 ·exact bad (by rw [itW, if_neg h0, if_neg h1, if_neg h2, textW, if_neg ht]) (by rw [itB, if_neg h0, if_neg h1, if_neg h2, if_neg ht]) fun h => ht (h.2 (by omega))
theorem its_rel : ∀ (l : List It) {w : Wr} {bs : List UInt8} (ok : w.tl = decide (131072 < w.bs.length)) (t : w.tl = true -> 131072 < bs.length) (b : w.tl = false -> w.bs = bs),
 ((itsW w l).sp = true ↔ w.sp = true \/ ∃ x ∈ l, ¬ itOk x) /\ ((itsW w l).tl = true -> 131072 < (bs ++ itsB l).length) /\ ((itsW w l).tl = false -> (itsW w l).bs = bs ++ itsB l) /\ (itsW w l).tl = decide (131072 < (itsW w l).bs.length)
 | [], w, bs, ok, t, b => by
  rw [itsW_0, itsB, List.flatMap_nil, List.append_nil]; exact ⟨by simp, t, b, ok⟩
 | x :: l, w, bs, ok, t, b => by
  obtain ⟨a1, a2, a3, a4⟩ := it_rel x ok t b; obtain ⟨c1, c2, c3, c4⟩ := its_rel l a4 a2 a3; rw [itsW_1, itsB, List.flatMap_cons, <- List.append_assoc]; refine ⟨?_, c2, c3, c4⟩; rw [c1, a1]; simp only [List.mem_cons, exists_eq_or_imp, or_assoc]
theorem end_file (l : List It) : endW (itsW w0 l) = fileF l := by
 obtain ⟨a1, a2, a3, a4⟩ := its_rel l (w := w0) (bs := []) (by simp) (by simp) (by simp); rw [List.nil_append] at a2 a3; have hw : ¬ (w0.sp = true) := by simp
 rw [endW, fileF]
 by_cases h : (itsW w0 l).sp = true
 ·rw [if_pos h, if_pos ((a1.1 h).resolve_left hw)]
 ·rw [if_neg h, if_neg fun h' => h (a1.2 (.inr h'))]
  by_cases h2 : (itsW w0 l).tl = true
  ·rw [if_pos h2, if_pos (a2 h2)]
  ·have e := a3 (by simpa using h2)
   rw [if_neg h2, e, if_neg]; rw [a4, e] at h2
   simpa using h2
theorem itB_le (x : It) : (itB x).length <= 65 := by
 unfold itB
 split
 ·simp [byteW]
 ·split
  ·split
   ·have := comp7_le x.n; omega
   ·simp
  ·split
   ·simp [wordB]
   ·split
    ·rename_i h; have := h.1; rw [List.length_append, len_data]; simp; omega
    ·simp
theorem itsB_le (l : List It) : (itsB l).length <= 65 * l.length := by
 induction l with
 | nil => simp [itsB]
 | cons a l ih =>
  have := itB_le a; rw [itsB, List.flatMap_cons, List.length_append, List.length_cons]; rw [itsB] at ih; omega
theorem encode_no {f : Fc} (hf : FIn f) (hs : Small f.types) (hF : ¬ FaceP f) (H : List ABlk) : ACalls Tryz.prog 8 [f.av] H fun v H' => v = .tup [sv nl, iv 160] /\ H' = H := by
 refine ACalls.into Tryz.func8 cc8 rr8 fun hcl => ?_
 simp (disch := omega) only [Tryz.ntmps8, c8, r8, Fc.cs, go_sem, seval, reduceCtorEq]; refine Cont.mk (igood16_c hf hs _) ?_; rw [cdec_f hF]; simp (disch := omega) only [go_sem, seval, reduceCtorEq]; exact Ret.pre _ H (List.prefix_append _ _) (Nat.le_refl _) hcl (.rfl _) (by simp [refs, refs.refsL]) ⟨rfl, rfl⟩
def hstep (k : Int) (c : Nat) : Int := ((BitVec.ofInt IntKind.u32.bits k ^^^ BitVec.ofInt IntKind.u32.bits ((c : Int) % 4294967296)).toNat : Int) % 4294967296 * 16777619 % 4294967296
def hashL (l : List UInt8) : Int := l.foldl (fun k c => hstep k c.toNat) 2166136261
theorem hash_s (l : List UInt8) (i : Nat) (h : i < l.length) : hashL (l.take (i + 1)) = hstep (hashL (l.take i)) (l.getD i 0).toNat := by
 rw [hashL, List.take_succ_eq_append_getElem h, List.foldl_append, gD, gE h]; rfl
theorem mod_in (a b n : Int) : a % n * b % n = a * b % n := by rw [Int.mul_emod, Int.emod_emod_of_dvd _ (Int.dvd_refl n), <- Int.mul_emod]
def keyF (f : Fc) (k : Int) : Fc := { f with key := k }
theorem keyF_in {f : Fc} (h : FIn f) (k : Int) : FIn (keyF f k) := ⟨h.nm, h.us, h.os, h.ty, h.fn, h.ob, h.un⟩
theorem keyF_face {f : Fc} (k : Int) : FaceP (keyF f k) ↔ FaceP f :=
 ⟨fun h => ⟨⟨h.nm, h.us, h.os, h.ty, h.md, h.nn, h.un, h.ud, h.ob, h.od⟩, h.num⟩, fun h => ⟨⟨h.nm, h.us, h.os, h.ty, h.md, h.nn, h.un, h.ud, h.ob, h.od⟩, h.num⟩⟩
open Classical in
noncomputable def encV (f : Fc) : List AV := if FaceP f then fileF (encI f) else [sv nl, iv 160]
theorem encode_c {f : Fc} (hf : FIn f) (hs : Small f.types) (hk : 0 <= f.key /\ f.key < 4294967296) (huk : ∀ u ∈ f.uses, 0 <= u.key /\ u.key < 4294967296) (H : List ABlk) : ACalls Tryz.prog 8 [f.av] H fun v H' => v = .tup (encV f) /\ H' = H := by
 by_cases h : FaceP f
 ·rw [encV, if_pos h, <- end_file]; exact encode_yes hf hs h hk huk H
 ·rw [encV, if_neg h]; exact encode_no hf hs h H
noncomputable def keyV (f : Fc) : List AV := match encV (keyF f 0) with
 | [.d (.v (.string s)), .d (.v (.int .i64 e))] => if e = 0 then [wv (max (hashL s.data.toList) 1), iv 0] else [wv 0, iv e]
 | _ => []
theorem encV_two (f : Fc) : ∃ s e, encV f = [sv s, iv e] /\ s.size <= 131072 := by
 unfold encV fileF
 split
 ·split
  ·exact ⟨_, _, rfl, by decide⟩
  ·split
   ·exact ⟨_, _, rfl, by decide⟩
   ·rename_i h
    exact ⟨_, _, rfl, by show (itsB (encI f)).toArray.size <= _; rw [List.size_toArray]; omega⟩
 ·exact ⟨_, _, rfl, by decide⟩
theorem keyV_two (f : Fc) : ∃ k e, keyV f = [wv k, iv e] := by
 obtain ⟨s, e, h, _⟩ := encV_two (keyF f 0); rw [keyV, h]
 by_cases h0 : e = 0
 ·exact ⟨_, _, if_pos h0⟩
 ·exact ⟨_, _, if_neg h0⟩
theorem key_c {f : Fc} (hf : FIn f) (hs : Small f.types) (huk : ∀ u ∈ f.uses, 0 <= u.key /\ u.key < 4294967296) (H : List ABlk) : ACalls Tryz.prog 10 [f.av] H fun v H' => v = .tup (keyV f) /\ H' = H := by
 refine ACalls.into Tryz.func10 cc10 rr10 fun hcl => ?_
 have he := encode_c (keyF_in hf 0) (f := keyF f 0) hs ⟨Int.le_refl 0, by show (0 : Int) < _; decide⟩ huk; obtain ⟨s, e, hse, hz⟩ := encV_two (keyF f 0); have hkv : keyV f = if e = 0 then [wv (max (hashL s.data.toList) 1), iv 0] else [wv 0, iv e] := by rw [keyV, hse]
 rw [hse] at he; have hd := len_data s; have out : ∀ (u : List AV) {l : List ABlk}, AV.tup u = AV.tup (keyV f) -> Ret r10 H.length (fun v H' => v = .tup (keyV f) /\ H' = H) (some (.tup u)) (H ++ l) := fun u {l} h =>
  Ret.drop _ H (Nat.le_refl _) hcl (.rfl _) (by rw [h]; obtain ⟨a, b, hab⟩ := keyV_two f; rw [hab]; simp [refs, refs.refsL]) ⟨h, rfl⟩
 rw [hkv] at out; simp (disch := omega) only [Tryz.ntmps10, c10, r10, Fc.cs, go_sem, seval, reduceCtorEq]; refine Cont.mk (he _) ?_; rw [hkv]
 by_cases h0 : e = 0
 ·rw [if_pos h0] at out ⊢
  subst h0; simp (disch := omega) only [go_sem, seval, reduceCtorEq]; obtain ⟨V, hV⟩ : ∃ V : Nat -> Int, ∀ i, V i = hashL (s.data.toList.take i) := ⟨_, fun _ => rfl⟩; obtain ⟨S, hS⟩ : ∃ S : Nat -> List AV, ∀ i, S i = [f.av, .any, .any, .any, sv s, .any, wv (V i)] ++ List.replicate 10 .any ++ [sv s, iv s.size, iv i] ++ List.replicate 12 .any := ⟨_, fun _ => rfl⟩; have hV0 : V 0 = 2166136261 := by rw [hV]; rfl
  refine W.loopG (γ := Nat) (fun i => s.size - i) S (fun _ => H ++ [ABlk.cells [sv f.name, wv 0, usv f.uses, tv f.types, obv f.objs]]) (fun i => i <= s.size) 0 (Wk.slots (by rw [hS,hV0]; exact WkL.tail 20 _ rfl (by simp only [List.take_succ_cons, List.take_zero]; repeat' constructor))) (Nat.zero_le _) (fun i hi => ?_)
  by_cases h : i < s.size
  ·have hv := hash_s s.data.toList i (by rw [len_data]; exact h)
   rw [<- hV, <- hV, hstep] at hv; have hv2 := hv
   try simp only [go_sem, seval, reduceCtorEq] at hv2
   have hv3 := hv2
   try rw [mod_in] at hv3
   simp (disch := omega) only [hS, c10l0, <- hv, <- hv2, <- hv3, go_sem, seval, reduceCtorEq]; exact Nxt.mk (i + 1) (by omega) (Wk.slots (WkL.tw 20 (hS _))) h
  ·have e : V i = hashL s.data.toList := by rw [hV, List.take_of_length_le (by rw [len_data]; omega)]
   simp (disch := omega) only [hS, c10l0, e, go_sem, seval, reduceCtorEq]; exact out _ rfl
 ·rw [if_neg h0] at out ⊢
  simp (disch := omega) only [h0, go_sem, seval, reduceCtorEq]; exact out _ rfl
end Go.Proofs.YthifjndenhjobaaGreat.Rid
namespace Go.Proofs.YthifjndenhjobaaGreat
open Go.RowKit
section
variable {t u : List Ty}
theorem tyAt_app {a : Int} (h : placeP t a) : tyAt (t ++ u) a = tyAt t a := by
 have h1 := h.1; have h2 := h.2; rw [tyAt, tyAt, gD, gD, List.getElem?_append_left (by omega)]
theorem placeP.app {a : Int} (h : placeP t a) : placeP (t ++ u) a := ⟨h.1, by have := h.2; rw [List.length_append]; omega⟩
theorem tyAt_new {i : Nat} : tyAt (t ++ u) ((t.length : Int) + i) = u.getD i default := by
 rw [tyAt, show ((t.length : Int) + i).toNat = t.length + i by omega, gD, gD, List.getElem?_append_right (by omega), Nat.add_sub_cancel_left]
theorem formA_app {n : Int} (h : formA t n ≠ -1) : formA (t ++ u) n = formA t n := by
 obtain ⟨h0, h1, h2⟩ := formA_ne h; have hp : placeP t n := ⟨h0, h1⟩; rw [formA, if_pos (show 0 <= n /\ n < ((t ++ u).length : Nat) from (hp.app (u := u))), tyAt_app hp, h2]
theorem part_app {n : Int} (h : partP (formA t n)) : partP (formA (t ++ u) n) := by
 rw [formA_app (by rcases h with h | h | h <;> omega)]; exact h
theorem is_app {n k : Int} (h : formA t n = k) (hk : k ≠ -1) : formA (t ++ u) n = k := by
 rw [formA_app (by omega)]; exact h
theorem FormedP.app {x : Ty} (h : FormedP t x) : FormedP (t ++ u) x := by
 refine ⟨?_, h.2⟩; rcases h.1 with h | h | h | h | h
 ·exact .inl ⟨h.1, h.2.1, h.2.2.1, part_app h.2.2.2⟩
 ·exact .inr (.inl ⟨h.1, h.2.imp part_app fun k => is_app k (by decide)⟩)
 ·exact .inr (.inr (.inl ⟨h.1, h.2.1.imp_right fun k => is_app k (by decide), h.2.2.1, h.2.2.2.1, h.2.2.2.2.1, fun f hf => ⟨(h.2.2.2.2.2 f hf).1, part_app (h.2.2.2.2.2 f hf).2⟩⟩))
 ·exact .inr (.inr (.inr (.inl ⟨h.1, is_app h.2 (by decide)⟩)))
 ·refine .inr (.inr (.inr (.inr ⟨h.1, h.2.1, h.2.2.1.imp_right fun k => ?_, fun p hp => (h.2.2.2 p hp).imp part_app fun k => is_app k (by decide)⟩)))
  rw [formA_app (by rcases k with k | k | k <;> omega)]; exact k
theorem RecIn.pl {a : Int} (h : RecIn t a) : placeP t a := ⟨h.1, h.2.1⟩
theorem chain_app (h : GoodP t) : ∀ {n : Nat} {a : Int}, RecIn t a -> chain (t ++ u) n a = chain t n a
 | 0, a, _ => rfl
 | n + 1, a, ha => by
  simp only [chain]; rw [tyAt_app ha.pl]; rcases h.base ha with hb | hb
  ·rw [if_pos hb, if_pos hb]
  ·rw [chain_app h hb]
structure NewP (t u : List Ty) : Prop where
 len : t.length + u.length <= 256
 frm : ∀ i, i < u.length -> FormedP (t ++ u) (u.getD i default)
 kid : ∀ i : Nat, i < u.length -> ∀ y ∈ kidsC (t ++ u) ((t.length : Int) + i), 0 <= y /\ y < (t.length : Int) + i
 rec_ : ∀ i, i < u.length -> (u.getD i default).form = 9 -> (u.getD i default).base = 0 /\ (u.getD i default).desc = -1 /\ ((u.getD i default).fields.map Fd.name).Nodup
theorem getD_app_l {i : Nat} (h : i < t.length) : (t ++ u).getD i default = t.getD i default := by
 rw [gD, gD, List.getElem?_append_left h]
theorem getD_app_r {i : Nat} (h : t.length <= i) : (t ++ u).getD i default = u.getD (i - t.length) default := by
 rw [gD, gD, List.getElem?_append_right h]
theorem kids_app {a : Int} (ha : placeP t a) : kidsC (t ++ u) a = kidsC t a := by unfold kidsC; rw [tyAt_app ha]
theorem names_app {l : List Int} (h : ∀ c ∈ l, placeP t c) : namesL (t ++ u) l = namesL t l := by
 induction l with
 | nil => rfl
 | cons c l ih =>
  simp only [namesL, List.flatMap_cons]; rw [tyAt_app (h c (by simp))]; have := ih fun d hd => h d (by simp [hd])
  simp only [namesL] at this; rw [this]
theorem GoodP.app (h : GoodP t) (k : NewP t u) : GoodP (t ++ u) := by
 have hl := h.len; have hlen : (t ++ u).length = t.length + u.length := List.length_append; have accT : ∀ a : Int, Acc (KdC t) a -> placeP t a -> Acc (KdC (t ++ u)) a := fun a ha => by
  induction ha with
  | intro a _ ih =>
   intro hp
   refine ⟨_, fun y hy => ?_⟩; have hy' : y ∈ kidsC t a := by rw [<- kids_app (u := u) hp]; exact hy
   exact ih y hy' (h.toFrmP.kid hp.1 hp.2 hy')
 have accN : ∀ n : Nat, ∀ i : Nat, i <= n -> i < t.length + u.length -> Acc (KdC (t ++ u)) (i : Int) := by
  intro n
  induction n using Nat.strongRecOn with
  | _ n ih =>
   intro i hi hi2
   by_cases hlt : i < t.length
   ·exact accT _ (h.acc _ (by omega) (by omega)) ⟨by omega, by omega⟩
   ·refine ⟨_, fun y hy => ?_⟩
    have hk := k.kid (i - t.length) (by omega) y (by rw [show ((t.length : Int) + (i - t.length : Nat)) = i by omega]; exact hy); have := ih y.toNat (by omega) y.toNat (Nat.le_refl _) (by omega)
    rwa [show ((y.toNat : Nat) : Int) = y by omega] at this
 refine ⟨⟨by rw [hlen]; have := k.len; omega, fun i hi => ?_, fun i h7 hi => ?_⟩, fun a a0 a1 => ?_, fun i j hij hj => ?_, fun i hi => ?_⟩
 ·rw [getD_app_l (by omega)]; exact h.bas i hi
 ·by_cases hlt : i < t.length
  ·rw [getD_app_l hlt]; exact (h.frm i h7 hlt).app
  ·rw [getD_app_r (by omega)]; exact k.frm _ (by omega)
 ·have := accN a.toNat a.toNat (Nat.le_refl _) (by omega)
  rwa [show ((a.toNat : Nat) : Int) = a by omega] at this
 ·by_cases hlt : j < t.length
  ·rw [getD_app_l hlt, getD_app_l (by omega)]; exact h.uni i j hij hlt
  ·rintro ⟨_, h9, h0, _, he⟩
   rw [getD_app_r (show t.length <= j by omega)] at h9 he; have := (k.rec_ _ (by omega) h9).2.1; omega
 ·rintro ⟨h9, hc⟩
  by_cases hlt : i < t.length
  ·rw [getD_app_l hlt] at h9
   have hr : RecIn t (i : Int) := ⟨by omega, by omega, h9⟩; refine hc ?_; have hch : ChainP t i := Classical.byContradiction fun hn => h.chn i hlt ⟨h9, hn⟩
   unfold ChainP at hch ⊢
   rw [chain_app h hr, names_app fun c hc => (h.chain_rec hr c hc).pl]; exact hch
  ·rw [getD_app_r (by omega)] at h9
   obtain ⟨b0, _, nd⟩ := k.rec_ _ (by omega) h9; have e : tyAt (t ++ u) (i : Int) = u.getD (i - t.length) default := by
    have := tyAt_new (t := t) (u := u) (i := i - t.length)
    rwa [show ((t.length : Int) + (i - t.length : Nat)) = i by omega] at this
   refine hc ?_
   unfold ChainP namesL
   simp only [chain]; rw [e, b0, if_pos rfl]
   simpa [e] using nd
end
def c11 : AC :=
 sr [kn 0 (.al [ks, (.d (.v (.int .u32 0))), .esl, .esl, .esl])]
 (sr [ic 2 9 [], kn 3 (.bd [kz, ks, ks, kz, kz, kz, .esl, .esl, kz, kz] [(0, 1, (kc 7)), (3, 1, (kc 2)), (4, 1, (kc 1))]), kn 4 (.bd [kz, ks, ks, kz, kz, kz, .esl, .esl, kz, kz] [(0, 1, (kc 7)), (3, 1, (kc 3)), (4, 1, (kc 1))]), kn 5 (.bs .im 52 10 [t3, t4]), kn 6 (.app .gr 52 10 128 t2 t5), im 1 t6]
 (sr [im 7 t1, kn 8 (.bd [kz, ks, kz, kz, kz, ks, kz] [(0, 1, (kc 3)), (1, 1, (.c (.d (.v (.string ⟨#[120]⟩))))), (2, 1, (kc 8))]), kn 9 (.bs .im 58 7 [t8]), kn 10 (.bd [ks, (.d (.v (.int .u32 0))), .esl, .esl, .esl] [(0, 1, (.c (.d (.v (.string ⟨#[65]⟩))))), (3, 1, t7), (4, 1, t9)]), ke (.st t0 t10 5)]
 (.ret)))
def r11 : List RC := [.c 0 5 true]
theorem cc11 : cK Tryz.f11 (hhI 11) c11 := by unfold cK; kernel_rfl
theorem rr11 : resC Tryz.prog Tryz.f11 = some r11 := by kernel_rfl
theorem basic_good : GoodP basicL := by
 have hl : basicL.length = 7 := rfl; have fm : ∀ i, i < 7 -> (basicL.getD i default).form = i := fun i hi => by rw [basic_at hi]; rfl
 refine ⟨⟨⟨by omega, by omega⟩, fun i hi => basic_at hi, fun i h1 h2 => by omega⟩, fun a h0 h1 => ⟨_, fun y hy => ?_⟩, fun i j hij hj h => ?_, fun i hi h => ?_⟩
 ·have e : (tyAt basicL a).form = a := by rw [tyAt, fm a.toNat (by omega)]; omega
  have : y ∈ kidsC basicL a := hy; rw [kidsC, e, if_neg (by omega), if_neg (by omega)] at this
  cases this
 ·have := h.1; rw [fm i (by omega)] at this; omega
 ·have := h.1; rw [fm i (by omega)] at this; omega
def plA (k : Int) : Ty := ⟨7, se, se, k, 1, 0, [], [], 0, 0⟩
def plT : List Ty := basicL ++ [plA 2, plA 3]
theorem plT_at {i : Nat} (hi : i < plT.length) : (i < 7 /\ plT.getD i default = bt i) \/ (i = 7 /\ plT.getD i default = plA 2) \/ (i = 8 /\ plT.getD i default = plA 3) := by
 have hi : i < 9 := hi; rcases (by omega : i < 7 \/ i = 7 \/ i = 8) with h | rfl | rfl
 ·exact .inl ⟨h, by rw [plT, getD_app_l (show i < basicL.length from h), basic_at h]⟩
 ·exact .inr (.inl ⟨rfl, rfl⟩)
 ·exact .inr (.inr ⟨rfl, rfl⟩)
theorem plT_good : GoodP plT := by
 have e : ∀ i, i < 2 -> ∃ k, (k = 2 \/ k = 3) /\ [plA 2, plA 3].getD i default = plA k := fun i hi => by
  rcases (by omega : i = 0 \/ i = 1) with rfl | rfl
  ·exact ⟨2, .inl rfl, rfl⟩
  ·exact ⟨3, .inr rfl, rfl⟩
 refine basic_good.app ⟨by show 7 + 2 <= 256; omega, fun i hi => ?_, fun i hi y hy => ?_, fun i hi h9 => ?_⟩
 ·obtain ⟨k, hk, h⟩ := e i hi
  rw [h]; have f1 : formA (basicL ++ [plA 2, plA 3]) 1 = 1 := rfl; refine ⟨.inl ⟨rfl, by show 1 <= k; omega, by show k <= 4096; omega, ?_⟩, .inl ⟨rfl, rfl, by show (7 : Int) ≠ 9; decide⟩, rfl, rfl, rfl, rfl, rfl, rfl, rfl⟩
  show partP (formA _ 1)
  rw [f1]; exact .inl ⟨by omega, by omega⟩
 ·obtain ⟨k, hk, h⟩ := e i hi
  have e2 : tyAt (basicL ++ [plA 2, plA 3]) ((basicL.length : Int) + i) = plA k := by rw [tyAt_new, h]
  rw [kidsC, e2, if_pos (.inl rfl), List.mem_singleton] at hy; subst hy; exact ⟨by show (0 : Int) <= 1; decide, by show (1 : Int) < (7 : Nat) + i; omega⟩
 ·obtain ⟨k, hk, h⟩ := e i hi
  rw [h] at h9; exact absurd h9 (by show (7 : Int) ≠ 9; decide)
def plO : Ob := ⟨3, ⟨#[120]⟩, 8, ⟨0, 0, se⟩, 0⟩
def plainF : Fc := ⟨⟨#[65]⟩, 0, [], plT, [plO]⟩
theorem Nm_w (c : UInt8) (h : letF (c.toNat : Nat) = true) : Nm ⟨#[c]⟩ := ⟨(by show 1 <= 1; omega), (by show 1 <= 24; omega), h, fun i hi => by
 have : i = 0 := by have : i < 1 := hi; omega
 subst this; exact .inl h⟩
theorem plain_face : FaceP plainF := by
 have ms : ∀ i, i < plT.length -> (plT.getD i default).mod = se /\ (plT.getD i default).name = se /\ (plT.getD i default).form ≠ 9 := fun i hi => by
  rcases plT_at hi with ⟨h, e⟩ | ⟨h, e⟩ | ⟨h, e⟩
  ·rw [e]; exact ⟨rfl, rfl, by show (i : Int) ≠ 9; omega⟩
  ·rw [e]; exact ⟨rfl, rfl, by show (7 : Int) ≠ 9; decide⟩
  ·rw [e]; exact ⟨rfl, rfl, by show (7 : Int) ≠ 9; decide⟩
 refine ⟨⟨Nm_w 65 rfl, by show 0 <= 16; omega, by show 1 <= 64; omega, plT_good, fun i hi => .inl (ms i hi).1, fun i j hij hj h => ?_, fun u hu => (by cases hu), List.nodup_nil, fun o ho => ?_, by show ([plO].map Ob.name).Nodup; simp⟩, fun i hi h9 => absurd h9 (ms i hi).2.2⟩
 ·have hi : i < plT.length := by have : j < plT.length := hj; omega
  exact h.1 (ms i hi).2.1
 ·have : o = plO := List.mem_singleton.1 ho
  subst this; refine ⟨Nm_w 120 rfl, ⟨by show (0 : Int) <= 8; decide, by show (8 : Int) < (9 : Nat); decide⟩, .inr (.inr (.inl ⟨rfl, rfl, ?_⟩))⟩
  show (7 : Int) ≠ 0 /\ (7 : Int) ≠ 5 /\ (7 : Int) ≠ 6 /\ (7 : Int) ≠ 8 /\ (0 : Int) <= 0 /\ (0 : Int) < 64
  decide
theorem plain_small : Small plT := ⟨by show 9 <= 400000; omega, fun x hx => by
 obtain ⟨i, hi, rfl⟩ := List.getElem_of_mem hx; have e : plT[i] = plT.getD i default := by rw [gD, gE hi]; rfl
 rw [e]; rcases plT_at hi with ⟨h, e⟩ | ⟨h, e⟩ | ⟨h, e⟩ <;> rw [e] <;> exact ⟨Nat.zero_le _, Nat.zero_le _, by show se.size <= _; decide, by show se.size <= _; decide⟩⟩
theorem plain_in : FIn plainF := by
 refine ⟨by decide, by decide, by decide, ⟨by decide, fun x hx => ?_⟩, fun x hx g hg => ?_, fun o ho => ?_, fun u hu => (by cases hu)⟩
 ·have := plain_small.2 x hx
  exact ⟨by omega, by omega, by omega, by omega⟩
 ·obtain ⟨i, hi, rfl⟩ := List.getElem_of_mem hx
  have hi : i < plT.length := hi; have e : plT[i] = plT.getD i default := by rw [gD, gE hi]; rfl
  have hg : g ∈ (plT[i]).fields := hg; rw [e] at hg; rcases plT_at hi with ⟨h, e⟩ | ⟨h, e⟩ | ⟨h, e⟩ <;> rw [e] at hg <;> cases hg
 ·have : o = plO := List.mem_singleton.1 ho
  subst this; exact ⟨by decide, by decide, ⟨by decide, by decide, by decide⟩, by decide⟩
theorem pre_out0 {H G : List ABlk} (h : ∀ c, c < H.length -> G[c]? = H[c]?) : H <+: G := by
 refine ⟨G.drop H.length, ?_⟩; have e : H = G.take H.length := List.ext_getElem? fun i => by
  rw [List.getElem?_take]
  split
  ·rename_i hi; exact (h i hi).symm
  ·rename_i hi; exact List.getElem?_eq_none (by omega)
 have := List.take_append_drop H.length G
 rwa [<- e] at this
theorem plainF_c (H : List ABlk) : ACalls Tryz.prog 11 [] H fun v H' => v = plainF.av /\ H' = H := by
 refine ACalls.into Tryz.func11 cc11 rr11 fun hcl => ?_
 have mx : maxLen = 9223372036854775807 := mx_eq; simp (disch := omega) only [Tryz.ntmps11, c11, r11, go_sem, seval, reduceCtorEq]; refine Cont.mk (rbasic_c _) ?_; have lb : (basicL.map Ty.c).length = 7 := rfl; simp (disch := omega) only [lb, go_sem, seval, reduceCtorEq]; refine Ret.pre plainF.av H ?_ (Nat.le_refl _) hcl (.agg rfl fun i c c' h1 h2 => ?_) (by simp [refs, refs.refsL, plainF, Fc.cs]) ⟨rfl, rfl⟩
 ·exact pre_out0 fun c hc => by simp [List.getElem?_set, List.getElem?_append, hc] <;> omega
 ·rcases i with _ | _ | _ | _ | _ | i <;> simp [plainF, Fc.cs] at h1 h2
  ·subst h1 h2; exact .rfl _
  ·subst h1 h2; exact .rfl _
  ·subst h1 h2; exact .esl
  ·subst h1 h2; exact .gsl _ _ (plT.map Ty.c)
  ·subst h1 h2; exact .rfl _
end Go.Proofs.YthifjndenhjobaaGreat
namespace Go.Proofs.YthifjndenhjobaaGreat.Rid
open Go.RowKit
def c4 : AC :=
 sr [im 0 kF]
 (sr [ic 6 9 [], kn 7 (.bd [ks, (.d (.v (.int .u32 0))), .esl, .esl, .esl] [(0, 1, (.c (.d (.v (.string ⟨#[65]⟩))))), (1, 1, (.c (.d (.v (.int .u32 1))))), (3, 1, t6)]), ic 8 8 [t7], im 5 t8, kn 9 (.ext t5 0), kn 10 (.ext t5 1), im 1 t9, im 2 t10]
 (sr [ic 12 11 [], ic 13 10 [t12], im 11 t13, kn 14 (.ext t11 0), kn 15 (.ext t11 1), im 3 t14, im 4 t15]
 (sr [im 16 t2, ib 17 .eql t16 (kc 0), im 18 t17, ky 19 18 (.mv t1), ky 20 18 (.bin .eql t19 (.c (.d (.v (.string ⟨#[83, 80, 83, 89, 0, 65, 0, 1, 0, 0, 0, 0, 0, 0]⟩))))), kn 21 (.pick t18 t20 kF), im 22 t21, ky 23 22 (.mv t4), ky 24 22 (.bin .eql t23 (kc 0)), kn 25 (.pick t22 t24 kF), im 26 t25, ky 27 26 (.mv t3), ky 28 26 (.bin .neq t27 (.c (.d (.v (.int .u32 0))))), kn 29 (.pick t26 t28 kF), im 0 t29]
 (.ret))))
def r4 : List RC := [.t 0]
theorem cc4 : cK Tryz.f4 (hhW 4) c4 := by unfold cK; kernel_rfl
theorem rr4 : resC Tryz.prog Tryz.f4 = some r4 := by kernel_rfl
def firstF : Fc := ⟨⟨#[65]⟩, 1, [], basicL, []⟩
theorem basic_ms {i : Nat} (hi : i < basicL.length) : (basicL.getD i default).mod = se /\ (basicL.getD i default).name = se /\ (basicL.getD i default).form ≠ 9 := by
 have hi : i < 7 := hi; rw [basic_at hi]; exact ⟨rfl, rfl, by show (i : Int) ≠ 9; omega⟩
theorem first_face : FaceP firstF := by
 refine ⟨⟨Nm_w 65 rfl, by show 0 <= 16; omega, by show 0 <= 64; omega, basic_good, fun i hi => .inl (basic_ms hi).1, fun i j hij hj h => ?_, fun u hu => (by cases hu), List.nodup_nil, fun o ho => (by cases ho), List.nodup_nil⟩, fun i hi h9 => absurd h9 (basic_ms hi).2.2⟩; have hi : i < basicL.length := by have : j < basicL.length := hj; omega
 exact h.1 (basic_ms hi).2.1
theorem first_small : Small basicL := ⟨by show 7 <= 400000; omega, fun x hx => by
 obtain ⟨i, hi, rfl⟩ := List.getElem_of_mem hx; have e : basicL[i] = basicL.getD i default := by rw [gD, gE hi]; rfl
 rw [e, basic_at hi]; exact ⟨Nat.zero_le _, Nat.zero_le _, by show se.size <= _; decide, by show se.size <= _; decide⟩⟩
theorem first_in : FIn firstF := by
 refine ⟨by decide, by decide, by decide, ⟨by decide, fun x hx => ?_⟩, fun x hx g hg => ?_, fun o ho => (by cases ho), fun u hu => (by cases hu)⟩
 ·have := first_small.2 x hx
  exact ⟨by omega, by omega, by omega, by omega⟩
 ·obtain ⟨i, hi, rfl⟩ := List.getElem_of_mem hx
  have hi : i < basicL.length := hi; have e : basicL[i] = basicL.getD i default := by rw [gD, gE hi]; rfl
  have hg : g ∈ (basicL[i]).fields := hg; rw [e, basic_at hi] at hg
  cases hg
theorem ok_all {l : List It} (h : ∀ x ∈ l, itOk x) (hl : l.length <= 2000) : fileF l = [sv ⟨(itsB l).toArray⟩, iv 0] := by
 have := itsB_le l; rw [fileF, if_neg (by rintro ⟨x, hx, h2⟩; exact h2 (h x hx)), if_neg (by omega)]
theorem ok_n {n : Int} (h : -2147483648 <= n /\ n < 2147483648) : itOk (iN n) := ⟨fun _ => h, fun e => by simp at e⟩
theorem ok_b (n : Int) : itOk (iB n) := ⟨fun e => by simp at e, fun e => by simp at e⟩
theorem ok_w (n : Int) : itOk (iW n) := ⟨fun e => by simp at e, fun e => by simp at e⟩
theorem ok_t {s : ByteArray} (h : textOk s) : itOk (iT s) := ⟨fun e => by simp at e, fun _ => h⟩
theorem tx_spsy : textOk ⟨#[83, 80, 83, 89]⟩ := ⟨by decide, by decide⟩
theorem tx_a : textOk ⟨#[65]⟩ := ⟨by decide, by decide⟩
theorem tx_x : textOk ⟨#[120]⟩ := ⟨by decide, by decide⟩
theorem tx_e : textOk se := ⟨by decide, by decide⟩
theorem first_enc : encV firstF = [sv ⟨#[83, 80, 83, 89, 0, 65, 0, 1, 0, 0, 0, 0, 0, 0]⟩, iv 0] := by
 have e : encI firstF = [iT ⟨#[83, 80, 83, 89]⟩, iT ⟨#[65]⟩, iW 1, iN 0, iN 0, iN 0] := rfl; rw [encV, if_pos first_face, e, ok_all (fun x hx => ?_) (by decide)]
 ·have f0 : fit32 0 := ⟨by decide, by decide⟩
  have c0 : comp7 0 = [0] := by decide
  have w1 : wordB 1 = [1, 0, 0, 0] := by decide
  simp only [itsB, List.flatMap_cons, List.flatMap_nil, itB, if_pos tx_spsy, if_pos tx_a, if_pos f0, c0, w1]
  rfl
 ·simp only [List.mem_cons, List.not_mem_nil, or_false] at hx
  rcases hx with rfl | rfl | rfl | rfl | rfl | rfl
  ·exact ok_t tx_spsy
  ·exact ok_t tx_a
  ·exact ok_w _
  ·exact ok_n (by decide)
  ·exact ok_n (by decide)
  ·exact ok_n (by decide)
theorem plain_enc : ∃ s, encV (keyF plainF 0) = [sv s, iv 0] := by
 have e : encI (keyF plainF 0) = [iT ⟨#[83, 80, 83, 89]⟩, iT ⟨#[65]⟩, iW 0, iN 0, iN 2] ++ ([iB 7, iT se, iT se, iN 2, iN 1, iN 0, iN 0, iN 0, iN 0, iN 0] ++ ([iB 7, iT se, iT se, iN 3, iN 1, iN 0, iN 0, iN 0, iN 0, iN 0] ++ [iN 1, iB 3, iT ⟨#[120]⟩, iN 8, iB 0, iN 0, iT se, iN 0])) := rfl; rw [encV, if_pos ((keyF_face 0).2 plain_face), e, ok_all (fun x hx => ?_) (by decide)]
 ·exact ⟨_, rfl⟩
 ·simp only [List.mem_append, List.mem_cons, List.not_mem_nil, or_false] at hx
  have n0 : ∀ n ∈ [(0 : Int), 1, 2, 3, 7, 8], itOk (iN n) := fun n hn => ok_n (by simp only [List.mem_cons, List.not_mem_nil, or_false] at hn; omega)
  have hh : (∃ n ∈ [(0 : Int), 1, 2, 3, 7, 8], x = iN n) \/ (∃ n, x = iB n) \/ (∃ n, x = iW n) \/ ∃ s, textOk s /\ x = iT s := by
   rcases hx with (h | h | h | h | h) | (h | h | h | h | h | h | h | h | h | h) | (h | h | h | h | h | h | h | h | h | h) | (h | h | h | h | h | h | h | h)
   all_goals first
    | exact .inr (.inl ⟨_, h⟩)
    | exact .inr (.inr (.inl ⟨_, h⟩))
    | exact .inl ⟨_, by decide, h⟩
    | exact .inr (.inr (.inr ⟨_, tx_e, h⟩))
    | exact .inr (.inr (.inr ⟨_, tx_a, h⟩))
    | exact .inr (.inr (.inr ⟨_, tx_x, h⟩))
    | exact .inr (.inr (.inr ⟨_, tx_spsy, h⟩))
  rcases hh with ⟨n, hn, rfl⟩ | ⟨n, rfl⟩ | ⟨n, rfl⟩ | ⟨s, hs, rfl⟩
  ·exact n0 n hn
  ·exact ok_b n
  ·exact ok_w n
  ·exact ok_t hs
theorem plain_key : ∃ k, 1 <= k /\ keyV plainF = [wv k, iv 0] := by
 obtain ⟨s, h⟩ := plain_enc; refine ⟨max (hashL s.data.toList) 1, Int.le_max_right _ _, ?_⟩; rw [keyV, h]; exact if_pos rfl
theorem wakesY_c (H : List ABlk) : ACalls Tryz.prog 4 [] H fun v H' => v = bv true /\ H' = H := by
 refine ACalls.into Tryz.func4 cc4 rr4 fun hcl => ?_
 simp (disch := omega) only [Tryz.ntmps4, c4, r4, go_sem, seval, reduceCtorEq]; refine Cont.mk (rbasic_c _) ?_; simp (disch := omega) only [go_sem, seval, reduceCtorEq]; have hw : ∀ G, ACalls Tryz.prog 8 [.agg [sv ⟨#[65]⟩, wv 1, .esl, .gsl H.length 10 (basicL.map Ty.c), .esl]] G fun v H' => v = .tup (encV firstF) /\ H' = G := fun G => by
  refine ACalls.pre (args' := [firstF.av]) (H0 := G) (Wk.slots (.cons (.agg rfl fun i c c' h1 h2 => ?_) .nil)) (encode_c first_in (f := firstF) first_small (by show (0 : Int) <= 1 /\ (1 : Int) < _; decide) (fun u hu => (by cases hu)) G); rcases i with _ | _ | _ | _ | _ | i <;> simp [firstF, Fc.cs] at h1 h2
  ·subst h1 h2; exact .rfl _
  ·subst h1 h2; exact .rfl _
  ·subst h1 h2; exact .esl
  ·subst h1 h2; exact .gsl _ _ (basicL.map Ty.c)
  ·subst h1 h2; exact .esl
 rw [first_enc] at hw; refine Cont.mk (hw _) ?_; simp (disch := omega) only [go_sem, seval, reduceCtorEq]; refine Cont.mk (plainF_c _) ?_; simp (disch := omega) only [go_sem, seval, reduceCtorEq]; refine Cont.mk (key_c plain_in plain_small (fun u hu => (by cases hu)) _) ?_; obtain ⟨k, hk, hkv⟩ := plain_key; rw [hkv]; simp (disch := omega) only [show ¬ k = 0 by omega, go_sem, seval, reduceCtorEq]; exact Ret.pre _ H (List.prefix_append _ _) (Nat.le_refl _) hcl (.rfl _) (by simp [refs]) ⟨rfl, rfl⟩
end Go.Proofs.YthifjndenhjobaaGreat.Rid
