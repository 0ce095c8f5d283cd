/- What a row of items is, as bytes; the hash. -/
import Derived.Test.YthifjndenhjobaaYS2
import Derived.Test.YthifjndenhjobaaYB6
namespace Go.Proofs.Ythifjndenhjobaa.Rid
set_option linter.unusedSimpArgs false
set_option linter.unusedVariables false
set_option maxRecDepth 20000
set_option maxHeartbeats 4000000
open Go.RowKit

def c29l0 : AC :=
 .seq (.reg [kn 20 (.bin .lss (.t 19) (.t 18))])
 (.seq (.cond (.t 20) (.skip) (.exit 0))
 (.seq (.block 1 (.seq (.reg [kn 21 (.mv (.t 19)), kn 7 (.mv (.t 21))])
 (.reg [kn 22 (.mv (.t 6)), kn 23 (.mv (.t 4)), kn 24 (.mv (.t 7)), kn 25 (.ix (.t 23) (.t 24)), kn 26 (.cvi .u32 (.t 25)), kn 27 (.bin .xor (.t 22) (.t 26)), kn 28 (.bin .mul (.t 27) (.c (.d (.v (.int .u32 16777619))))), kn 6 (.mv (.t 28))])))
 (.reg [kn 29 (.bin .add (.t 19) (kc 1)), kn 19 (.mv (.t 29))])))

def c29 : AC :=
 .seq (.reg [kn 1 (.bx (.t 0)), kn 2 (.mv (.c (.d (.v (.int .u32 0))))), kn 3 (.mv (kc 0))])
 (.seq (.reg [kn 8 (.fa (.t 1) 1), ke (.st (.t 8) (.c (.d (.v (.int .u32 0)))) 1)])
 (.seq (.reg [kn 10 (.ld (.t 1) 5 true), kn 11 (.call 27 [(.t 10)]), kn 9 (.mv (.t 11)), kn 12 (.ext (.t 9) 0), kn 13 (.ext (.t 9) 1), kn 4 (.mv (.t 12)), kn 5 (.mv (.t 13))])
 (.seq (.seq (.reg [kn 14 (.mv (.t 5)), kn 15 (.bin .neq (.t 14) (kc 0))])
 (.cond (.t 15) (.seq (.reg [kn 16 (.mv (.t 5)), kn 2 (.mv (.c (.d (.v (.int .u32 0))))), kn 3 (.mv (.t 16))])
 (.ret)) (.skip)))
 (.seq (.reg [kn 6 (.mv (.c (.d (.v (.int .u32 2166136261)))))])
 (.seq (.seq (.reg [kn 17 (.mv (.t 4)), kn 18 (.len true (.t 17)), kn 19 (.mv (kc 0))])
 (.block 0 (.loop c29l0)))
 (.seq (.reg [kn 30 (.mv (.t 6)), kn 31 (.mx [(.t 30), (.c (.d (.v (.int .u32 1))))]), kn 2 (.mv (.t 31)), kn 3 (.mv (kc 0))])
 (.ret)))))))
def r29 : List RC := [.t 2, .t 3]

def c67l0 : AC :=
 .seq (.seq (.reg [kn 5 (.mv (.t 4)), kn 6 (.mv (.t 0)), kn 7 (.len true (.t 6)), kn 8 (.bin .lss (.t 5) (.t 7))])
 (.cond (.t 8) (.skip) (.exit 0)))
 (.seq (.block 1 (.reg [kn 11 (.mv (.t 3)), kn 12 (.mv (.t 0)), kn 13 (.mv (.t 4)), kn 14 (.ix (.t 12) (.t 13)), kn 15 (.cvi .u32 (.t 14)), kn 16 (.bin .xor (.t 11) (.t 15)), kn 17 (.bin .mul (.t 16) (.c (.d (.v (.int .u32 16777619))))), kn 3 (.mv (.t 17))]))
 (.reg [kn 9 (.mv (.t 4)), kn 10 (.bin .add (.t 9) (kc 1)), kn 4 (.mv (.t 10))]))

def c67 : AC :=
 .seq (.reg [kn 2 (.mv (.c (.d (.v (.int .u32 0)))))])
 (.seq (.reg [kn 3 (.mv (.c (.d (.v (.int .u32 2166136261)))))])
 (.seq (.seq (.reg [kn 4 (.mv (kc 0))])
 (.block 0 (.loop c67l0)))
 (.seq (.reg [kn 18 (.mv (.t 3)), kn 19 (.mx [(.t 18), (.c (.d (.v (.int .u32 1))))]), kn 2 (.mv (.t 19))])
 (.ret))))
def r67 : List RC := [.t 2]

theorem cc29 : Try.f29.body.bind (comp Try.prog (hhW 29)) = some c29 := by kernel_rfl
theorem rr29 : resC Try.prog Try.f29 = some r29 := by kernel_rfl
theorem cc67 : Try.f67.body.bind (comp Try.prog (hhW 67)) = some c67 := by kernel_rfl
theorem rr67 : resC Try.prog Try.f67 = some r67 := by kernel_rfl
open Classical in
noncomputable def itB (x : It) : List UInt8 := if x.kind = 0 then byteW x.n else if x.kind = 1 then (if fit32 x.n then comp7 x.n else []) else if x.kind = 2 then wordB x.n else if textOk x.s then x.s.data.toList ++ [0] else []
def itOk (x : It) : Prop := (x.kind = 1 → fit32 x.n) ∧ (3 ≤ x.kind → textOk x.s)
noncomputable def itsB (l : List It) : List UInt8 := l.flatMap itB
open Classical in
noncomputable def fileF (l : List It) : List AV := if ∃ x ∈ l, ¬ itOk x then [sv nl, iv 1] else if 131072 < (itsB l).length then [sv nl, iv 2] else [sv ⟨(itsB l).toArray⟩, iv 0]
theorem put_rel {w : Wr} {bs l : List UInt8} (ok : w.tl = decide (131072 < w.bs.length)) (t : w.tl = true → 131072 < bs.length) (b : w.tl = false → w.bs = bs) : (putW w l).sp = w.sp ∧ ((putW w l).tl = true → 131072 < (bs ++ l).length) ∧ ((putW w l).tl = false → (putW w l).bs = bs ++ l) ∧ (putW w l).tl = decide (131072 < (putW w l).bs.length) := by
 unfold putW
 by_cases h : w.tl = true
 ·rw [if_pos h]
  refine ⟨rfl, fun _ => ?_, fun h' => absurd (h.symm.trans h') (by simp), ok⟩
  have := t h
  rw [List.length_append]; omega
 ·rw [if_neg h]
  have hb := b (by simpa using h)
  refine ⟨rfl, fun h' => ?_, fun _ => by rw [hb], rfl⟩
  rw [← hb]
  exact of_decide_eq_true h'
theorem it_rel {w : Wr} {bs : List UInt8} (x : It) (ok : w.tl = decide (131072 < w.bs.length)) (t : w.tl = true → 131072 < bs.length) (b : w.tl = false → w.bs = bs) :
 ((itW w x).sp = true ↔ w.sp = true ∨ ¬ itOk x) ∧ ((itW w x).tl = true → 131072 < (bs ++ itB x).length) ∧ ((itW w x).tl = false → (itW w x).bs = bs ++ itB x) ∧ (itW w x).tl = decide (131072 < (itW w x).bs.length) := by
 have put : ∀ l, itW w x = putW w l → itB x = l → itOk x → ((itW w x).sp = true ↔ w.sp = true ∨ ¬ itOk x) ∧ ((itW w x).tl = true → 131072 < (bs ++ itB x).length) ∧ ((itW w x).tl = false → (itW w x).bs = bs ++ itB x) ∧ (itW w x).tl = decide (131072 < (itW w x).bs.length) := fun l e1 e2 e3 => by
  obtain ⟨a, c, d, e⟩ := put_rel (l := l) ok t b
  rw [e1, e2]
  exact ⟨by rw [a]; exact ⟨.inl, fun h => h.elim id fun h => absurd e3 h⟩, c, d, e⟩
 have bad : itW w x = ⟨w.bs, true, w.tl⟩ → itB x = [] → ¬ itOk x → ((itW w x).sp = true ↔ w.sp = true ∨ ¬ itOk x) ∧ ((itW w x).tl = true → 131072 < (bs ++ itB x).length) ∧ ((itW w x).tl = false → (itW w x).bs = bs ++ itB x) ∧ (itW w x).tl = decide (131072 < (itW w x).bs.length) := fun e1 e2 e3 => by
  rw [e1, e2, List.append_nil]
  exact ⟨⟨fun _ => .inr e3, fun _ => rfl⟩, t, b, ok⟩
 by_cases h0 : x.kind = 0
 ·exact put (byteW x.n) (by rw [itW, if_pos h0]) (by rw [itB, if_pos h0]) ⟨fun h => by omega, fun h => by omega⟩
 by_cases h1 : x.kind = 1
 ·by_cases hf : fit32 x.n
  ·exact put (comp7 x.n) (by rw [itW, if_neg h0, if_pos h1, numW, if_pos hf]) (by rw [itB, if_neg h0, if_pos h1, if_pos hf]) ⟨fun _ => hf, fun h => by omega⟩
  ·exact bad (by rw [itW, if_neg h0, if_pos h1, numW, if_neg hf]) (by rw [itB, if_neg h0, if_pos h1, if_neg hf]) fun h => hf (h.1 h1)
 by_cases h2 : x.kind = 2
 ·exact put (wordB x.n) (by rw [itW, if_neg h0, if_neg h1, if_pos h2]) (by rw [itB, if_neg h0, if_neg h1, if_pos h2]) ⟨fun h => by omega, fun h => by omega⟩
 by_cases ht : textOk x.s
 ·exact put (x.s.data.toList ++ [0]) (by rw [itW, if_neg h0, if_neg h1, if_neg h2, textW, if_pos ht]) (by rw [itB, if_neg h0, if_neg h1, if_neg h2, if_pos ht]) ⟨fun h => by omega, fun h => ht⟩
 ·exact bad (by rw [itW, if_neg h0, if_neg h1, if_neg h2, textW, if_neg ht]) (by rw [itB, if_neg h0, if_neg h1, if_neg h2, if_neg ht]) fun h => ht (h.2 (by omega))
theorem its_rel : ∀ (l : List It) {w : Wr} {bs : List UInt8} (ok : w.tl = decide (131072 < w.bs.length)) (t : w.tl = true → 131072 < bs.length) (b : w.tl = false → w.bs = bs),
 ((itsW w l).sp = true ↔ w.sp = true ∨ ∃ x ∈ l, ¬ itOk x) ∧ ((itsW w l).tl = true → 131072 < (bs ++ itsB l).length) ∧ ((itsW w l).tl = false → (itsW w l).bs = bs ++ itsB l) ∧ (itsW w l).tl = decide (131072 < (itsW w l).bs.length)
 | [], w, bs, ok, t, b => by
  rw [itsW_0, itsB, List.flatMap_nil, List.append_nil]
  exact ⟨by simp, t, b, ok⟩
 | x :: l, w, bs, ok, t, b => by
  obtain ⟨a1, a2, a3, a4⟩ := it_rel x ok t b
  obtain ⟨c1, c2, c3, c4⟩ := its_rel l a4 a2 a3
  rw [itsW_1, itsB, List.flatMap_cons, ← List.append_assoc]
  refine ⟨?_, c2, c3, c4⟩
  rw [c1, a1]
  simp only [List.mem_cons, exists_eq_or_imp, or_assoc]
theorem end_file (l : List It) : endW (itsW w0 l) = fileF l := by
 obtain ⟨a1, a2, a3, a4⟩ := its_rel l (w := w0) (bs := []) (by simp) (by simp) (by simp)
 rw [List.nil_append] at a2 a3
 have hw : ¬ (w0.sp = true) := by simp
 rw [endW, fileF]
 by_cases h : (itsW w0 l).sp = true
 ·rw [if_pos h, if_pos ((a1.1 h).resolve_left hw)]
 ·rw [if_neg h, if_neg fun h' => h (a1.2 (.inr h'))]
  by_cases h2 : (itsW w0 l).tl = true
  ·rw [if_pos h2, if_pos (a2 h2)]
  ·have e := a3 (by simpa using h2)
   rw [if_neg h2, e, if_neg]
   rw [a4, e] at h2
   simpa using h2
theorem itB_le (x : It) : (itB x).length ≤ 65 := by
 unfold itB
 split
 ·simp [byteW]
 ·split
  ·split
   ·have := comp7_le x.n; omega
   ·simp
  ·split
   ·simp [wordB]
   ·split
    ·rename_i h; have := h.1; rw [List.length_append, len_data]; simp; omega
    ·simp
theorem itsB_le (l : List It) : (itsB l).length ≤ 65 * l.length := by
 induction l with
 | nil => simp [itsB]
 | cons a l ih =>
  have := itB_le a
  rw [itsB, List.flatMap_cons, List.length_append, List.length_cons]
  rw [itsB] at ih; omega
theorem encode_no {f : Fc} (hf : FIn f) (hs : Small f.types) (hF : ¬ FaceP f) (H : List ABlk) : ACalls Try.prog 27 [f.av] H fun v H' => v = .tup [sv nl, iv 160] ∧ H' = H := by
 refine ACalls.into Try.func27 cc27 rr27 fun hcl => ?_
 simp (maxSteps := 2000000) (disch := omega) only [Try.ntmps27, c27, r27, Fc.cs, go_sem, seval, reduceCtorEq]
 refine Cont.mk (igood16_c hf hs _) ?_
 rw [cdec_f hF]
 simp (maxSteps := 2000000) (disch := omega) only [go_sem, seval, reduceCtorEq]
 exact Ret.pre _ H (List.prefix_append _ _) (Nat.le_refl _) hcl (.rfl _) (by simp [refs, refs.refsL]) ⟨rfl, rfl⟩
def hstep (k : Int) (c : Nat) : Int := ((BitVec.ofInt IntKind.u32.bits k ^^^ BitVec.ofInt IntKind.u32.bits ((c : Int) % 4294967296)).toNat : Int) % 4294967296 * 16777619 % 4294967296
def hashL (l : List UInt8) : Int := l.foldl (fun k c => hstep k c.toNat) 2166136261
theorem hash_s (l : List UInt8) (i : Nat) (h : i < l.length) : hashL (l.take (i + 1)) = hstep (hashL (l.take i)) (l.getD i 0).toNat := by
 rw [hashL, List.take_succ_eq_append_getElem h, List.foldl_append, List.getD_eq_getElem?_getD, List.getElem?_eq_getElem h]; rfl
theorem mod_in (a b n : Int) : a % n * b % n = a * b % n := by rw [Int.mul_emod, Int.emod_emod_of_dvd _ (Int.dvd_refl n), ← Int.mul_emod]
theorem hashR_c (s : ByteArray) (hz : s.size ≤ 131072) (H : List ABlk) : ACalls Try.prog 67 [sv s] H fun v H' => v = wv (max (hashL s.data.toList) 1) ∧ H' = H := by
 refine ACalls.into Try.func67 cc67 rr67 fun hcl => ?_
 simp (maxSteps := 2000000) (disch := omega) only [Try.ntmps67, c67, r67, go_sem, seval, reduceCtorEq]
 obtain ⟨V, hV⟩ : ∃ V : Nat → Int, ∀ i, V i = hashL (s.data.toList.take i) := ⟨_, fun _ => rfl⟩
 obtain ⟨S, hS⟩ : ∃ S : Nat → List AV, ∀ i, S i = [sv s, .any, .any, wv (V i), iv i] ++ List.replicate 15 .any := ⟨_, fun _ => rfl⟩
 have hV0 : V 0 = 2166136261 := by rw [hV]; rfl
 refine W.loopG (γ := Nat) (fun i => s.size - i) S (fun _ => H) (fun i => i ≤ s.size) 0 (Wk.slots (by rw [hS,hV0]; exact WkL.tail 5 _ rfl (by simp only [List.take_succ_cons, List.take_zero]; repeat' first | exact WkL.nil | refine WkL.cons (Wk1.rfl _) ?_ | refine WkL.cons Wk1.esl ?_ | refine WkL.cons (Wk1.gsl _ _ _) ?_ | refine WkL.cons (Wk1.any _) ?_))) (Nat.zero_le _) (fun i hi => ?_)
 by_cases h : i < s.size
 ·have hv := hash_s s.data.toList i (by rw [len_data]; exact h)
  rw [← hV, ← hV, hstep] at hv
  have hv2 := hv
  try simp only [go_sem, seval, reduceCtorEq] at hv2
  have hv3 := hv2
  try rw [mod_in] at hv3
  simp (maxSteps := 2000000) (disch := omega) only [hS, c67l0, ← hv, ← hv2, ← hv3, go_sem, seval, reduceCtorEq]
  exact Nxt.mk (i + 1) (by omega) (Wk.slots (by rw [hS]; exact WkL.tail 5 _ rfl (by simp only [List.take_succ_cons, List.take_zero]; repeat' first | exact WkL.nil | refine WkL.cons (Wk1.rfl _) ?_ | refine WkL.cons Wk1.esl ?_ | refine WkL.cons (Wk1.gsl _ _ _) ?_ | refine WkL.cons (Wk1.any _) ?_))) h
 ·have e : V i = hashL s.data.toList := by rw [hV, List.take_of_length_le (by rw [len_data]; omega)]
  simp (maxSteps := 2000000) (disch := omega) only [hS, c67l0, e, go_sem, seval, reduceCtorEq]
  exact Ret.keep ⟨rfl, rfl⟩
def keyF (f : Fc) (k : Int) : Fc := { f with key := k }
theorem keyF_in {f : Fc} (h : FIn f) (k : Int) : FIn (keyF f k) := ⟨h.nm, h.us, h.os, h.ty, h.fn, h.ob, h.un⟩
theorem keyF_face {f : Fc} (k : Int) : FaceP (keyF f k) ↔ FaceP f :=
 ⟨fun h => ⟨⟨h.nm, h.us, h.os, h.ty, h.md, h.nn, h.un, h.ud, h.ob, h.od⟩, h.num⟩, fun h => ⟨⟨h.nm, h.us, h.os, h.ty, h.md, h.nn, h.un, h.ud, h.ob, h.od⟩, h.num⟩⟩
open Classical in
noncomputable def encV (f : Fc) : List AV := if FaceP f then fileF (encI f) else [sv nl, iv 160]
theorem encode_c {f : Fc} (hf : FIn f) (hs : Small f.types) (hk : 0 ≤ f.key ∧ f.key < 4294967296) (huk : ∀ u ∈ f.uses, 0 ≤ u.key ∧ u.key < 4294967296) (H : List ABlk) : ACalls Try.prog 27 [f.av] H fun v H' => v = .tup (encV f) ∧ H' = H := by
 by_cases h : FaceP f
 ·rw [encV, if_pos h, ← end_file]; exact encode_yes hf hs h hk huk H
 ·rw [encV, if_neg h]; exact encode_no hf hs h H
noncomputable def keyV (f : Fc) : List AV := match encV (keyF f 0) with
 | [.d (.v (.string s)), .d (.v (.int .i64 e))] => if e = 0 then [wv (max (hashL s.data.toList) 1), iv 0] else [wv 0, iv e]
 | _ => []
theorem encV_two (f : Fc) : ∃ s e, encV f = [sv s, iv e] ∧ s.size ≤ 131072 := by
 unfold encV fileF
 split
 ·split
  ·exact ⟨_, _, rfl, by decide⟩
  ·split
   ·exact ⟨_, _, rfl, by decide⟩
   ·rename_i h
    exact ⟨_, _, rfl, by show (itsB (encI f)).toArray.size ≤ _; rw [List.size_toArray]; omega⟩
 ·exact ⟨_, _, rfl, by decide⟩
theorem keyV_two (f : Fc) : ∃ k e, keyV f = [wv k, iv e] := by
 obtain ⟨s, e, h, _⟩ := encV_two (keyF f 0)
 rw [keyV, h]
 by_cases h0 : e = 0
 ·exact ⟨_, _, if_pos h0⟩
 ·exact ⟨_, _, if_neg h0⟩
theorem key_c {f : Fc} (hf : FIn f) (hs : Small f.types) (huk : ∀ u ∈ f.uses, 0 ≤ u.key ∧ u.key < 4294967296) (H : List ABlk) : ACalls Try.prog 29 [f.av] H fun v H' => v = .tup (keyV f) ∧ H' = H := by
 refine ACalls.into Try.func29 cc29 rr29 fun hcl => ?_
 have he := encode_c (keyF_in hf 0) (f := keyF f 0) hs ⟨Int.le_refl 0, by show (0 : Int) < _; decide⟩ huk
 obtain ⟨s, e, hse, hz⟩ := encV_two (keyF f 0)
 have hkv : keyV f = if e = 0 then [wv (max (hashL s.data.toList) 1), iv 0] else [wv 0, iv e] := by rw [keyV, hse]
 rw [hse] at he
 have hd := len_data s
 have out : ∀ (u : List AV) {l : List ABlk}, AV.tup u = AV.tup (keyV f) → Ret r29 H.length (fun v H' => v = .tup (keyV f) ∧ H' = H) (some (.tup u)) (H ++ l) := fun u {l} h =>
  Ret.drop _ H (Nat.le_refl _) hcl (.rfl _) (by rw [h]; obtain ⟨a, b, hab⟩ := keyV_two f; rw [hab]; simp [refs, refs.refsL]) ⟨h, rfl⟩
 rw [hkv] at out
 simp (maxSteps := 2000000) (disch := omega) only [Try.ntmps29, c29, r29, Fc.cs, go_sem, seval, reduceCtorEq]
 refine Cont.mk (he _) ?_
 rw [hkv]
 by_cases h0 : e = 0
 ·rw [if_pos h0] at out ⊢
  subst h0
  simp (maxSteps := 2000000) (disch := omega) only [go_sem, seval, reduceCtorEq]
  obtain ⟨V, hV⟩ : ∃ V : Nat → Int, ∀ i, V i = hashL (s.data.toList.take i) := ⟨_, fun _ => rfl⟩
  obtain ⟨S, hS⟩ : ∃ S : Nat → List AV, ∀ i, S i = [f.av, .any, .any, .any, sv s, .any, wv (V i)] ++ List.replicate 10 .any ++ [sv s, iv s.size, iv i] ++ List.replicate 12 .any := ⟨_, fun _ => rfl⟩
  have hV0 : V 0 = 2166136261 := by rw [hV]; rfl
  refine W.loopG (γ := Nat) (fun i => s.size - i) S (fun _ => H ++ [ABlk.cells [sv f.name, wv 0, usv f.uses, tv f.types, obv f.objs]]) (fun i => i ≤ s.size) 0 (Wk.slots (by rw [hS,hV0]; exact WkL.tail 20 _ rfl (by simp only [List.take_succ_cons, List.take_zero]; repeat' first | exact WkL.nil | refine WkL.cons (Wk1.rfl _) ?_ | refine WkL.cons Wk1.esl ?_ | refine WkL.cons (Wk1.gsl _ _ _) ?_ | refine WkL.cons (Wk1.any _) ?_))) (Nat.zero_le _) (fun i hi => ?_)
  by_cases h : i < s.size
  ·have hv := hash_s s.data.toList i (by rw [len_data]; exact h)
   rw [← hV, ← hV, hstep] at hv
   have hv2 := hv
   try simp only [go_sem, seval, reduceCtorEq] at hv2
   have hv3 := hv2
   try rw [mod_in] at hv3
   simp (maxSteps := 2000000) (disch := omega) only [hS, c29l0, ← hv, ← hv2, ← hv3, go_sem, seval, reduceCtorEq]
   exact Nxt.mk (i + 1) (by omega) (Wk.slots (by rw [hS]; exact WkL.tail 20 _ rfl (by simp only [List.take_succ_cons, List.take_zero]; repeat' first | exact WkL.nil | refine WkL.cons (Wk1.rfl _) ?_ | refine WkL.cons Wk1.esl ?_ | refine WkL.cons (Wk1.gsl _ _ _) ?_ | refine WkL.cons (Wk1.any _) ?_))) h
  ·have e : V i = hashL s.data.toList := by rw [hV, List.take_of_length_le (by rw [len_data]; omega)]
   simp (maxSteps := 2000000) (disch := omega) only [hS, c29l0, e, go_sem, seval, reduceCtorEq]
   exact out _ rfl
 ·rw [if_neg h0] at out ⊢
  simp (maxSteps := 2000000) (disch := omega) only [h0, go_sem, seval, reduceCtorEq]
  exact out _ rfl
end Go.Proofs.Ythifjndenhjobaa.Rid

/- r17.typ. Printed by genS4.py. -/
namespace Go.Proofs.Ythifjndenhjobaa.Rid
set_option linter.unusedSimpArgs false
set_option linter.unusedVariables false
set_option maxRecDepth 20000
set_option maxHeartbeats 4000000
open Go.RowKit

def c63l0 : AC :=
 .seq (.seq (.reg [kn 85 (.mv (.t 7)), kn 86 (.fa (.t 3) 7), kn 87 (.ld (.t 86) 1 false), kn 88 (.len false (.t 87)), kn 89 (.bin .lss (.t 85) (.t 88))])
 (.cond (.t 89) (.skip) (.exit 4)))
 (.seq (.block 5 (.seq (.reg [kn 92 (.mv (.t 0)), kn 93 (.fa (.t 3) 7), kn 94 (.ld (.t 93) 1 false), kn 95 (.mv (.t 7)), kn 96 (.ia (.t 94) (.t 95) 2), kn 97 (.fa (.t 96) 0), kn 98 (.ld (.t 97) 1 false), kn 99 (.call 98 [(.t 98)]), kn 100 (.call 64 [(.t 92), (.t 99)])])
 (.reg [kn 101 (.mv (.t 0)), kn 102 (.fa (.t 3) 7), kn 103 (.ld (.t 102) 1 false), kn 104 (.mv (.t 7)), kn 105 (.ia (.t 103) (.t 104) 2), kn 106 (.fa (.t 105) 1), kn 107 (.ld (.t 106) 1 false), kn 108 (.call 62 [(.t 101), (.t 107)])])))
 (.reg [kn 90 (.mv (.t 7)), kn 91 (.bin .add (.t 90) (kc 1)), kn 7 (.mv (.t 91))]))

def c63l1 : AC :=
 .seq (.seq (.reg [kn 48 (.mv (.t 6)), kn 49 (.fa (.t 3) 6), kn 50 (.ld (.t 49) 1 false), kn 51 (.len false (.t 50)), kn 52 (.bin .lss (.t 48) (.t 51))])
 (.cond (.t 52) (.skip) (.exit 2)))
 (.seq (.block 3 (.seq (.reg [kn 55 (.mv (.t 0)), kn 56 (.fa (.t 3) 6), kn 57 (.ld (.t 56) 1 false), kn 58 (.mv (.t 6)), kn 59 (.ia (.t 57) (.t 58) 3), kn 60 (.fa (.t 59) 0), kn 61 (.ld (.t 60) 1 false), kn 62 (.call 60 [(.t 55), (.t 61)])])
 (.seq (.reg [kn 63 (.mv (.t 0)), kn 64 (.fa (.t 3) 6), kn 65 (.ld (.t 64) 1 false), kn 66 (.mv (.t 6)), kn 67 (.ia (.t 65) (.t 66) 3), kn 68 (.fa (.t 67) 1), kn 69 (.ld (.t 68) 1 false), kn 70 (.call 98 [(.t 69)]), kn 71 (.call 64 [(.t 63), (.t 70)])])
 (.reg [kn 72 (.mv (.t 0)), kn 73 (.fa (.t 3) 6), kn 74 (.ld (.t 73) 1 false), kn 75 (.mv (.t 6)), kn 76 (.ia (.t 74) (.t 75) 3), kn 77 (.fa (.t 76) 2), kn 78 (.ld (.t 77) 1 false), kn 79 (.call 62 [(.t 72), (.t 78)])]))))
 (.reg [kn 53 (.mv (.t 6)), kn 54 (.bin .add (.t 53) (kc 1)), kn 6 (.mv (.t 54))]))

def c63l2 : AC :=
 .seq (.seq (.reg [kn 31 (.mv (.t 5)), kn 32 (.mv (.t 4)), kn 33 (.len false (.t 32)), kn 34 (.bin .lss (.t 31) (.t 33))])
 (.cond (.t 34) (.skip) (.exit 0)))
 (.seq (.block 1 (.reg [kn 37 (.mv (.t 0)), kn 38 (.mv (.t 4)), kn 39 (.mv (.t 5)), kn 40 (.ia (.t 38) (.t 39) 1), kn 41 (.ld (.t 40) 1 false), kn 42 (.call 62 [(.t 37), (.t 41)])]))
 (.reg [kn 35 (.mv (.t 5)), kn 36 (.bin .add (.t 35) (kc 1)), kn 5 (.mv (.t 36))]))

def c63 : AC :=
 .seq (.reg [kn 3 (.bx (.t 1))])
 (.seq (.reg [kn 8 (.mv (.t 0)), kn 9 (.fa (.t 3) 0), kn 10 (.ld (.t 9) 1 false), kn 11 (.call 64 [(.t 8), (.t 10)])])
 (.seq (.reg [kn 12 (.mv (.t 0)), kn 13 (.fa (.t 3) 1), kn 14 (.ld (.t 13) 1 false), kn 15 (.call 60 [(.t 12), (.t 14)])])
 (.seq (.reg [kn 16 (.mv (.t 0)), kn 17 (.fa (.t 3) 2), kn 18 (.ld (.t 17) 1 false), kn 19 (.call 60 [(.t 16), (.t 18)])])
 (.seq (.reg [kn 20 (.fa (.t 3) 3), kn 21 (.ld (.t 20) 1 false), kn 22 (.fa (.t 3) 4), kn 23 (.ld (.t 22) 1 false), kn 24 (.fa (.t 3) 5), kn 25 (.ld (.t 24) 1 false), kn 26 (.fa (.t 3) 8), kn 27 (.ld (.t 26) 1 false), kn 28 (.fa (.t 3) 9), kn 29 (.ld (.t 28) 1 false), kn 30 (.bs .im 3 1 [(.t 21), (.t 23), (.t 25), (.t 27), (.t 29)]), kn 4 (.mv (.t 30))])
 (.seq (.seq (.reg [kn 5 (.mv (kc 0))])
 (.block 0 (.loop c63l2)))
 (.seq (.reg [kn 43 (.mv (.t 0)), kn 44 (.fa (.t 3) 6), kn 45 (.ld (.t 44) 1 false), kn 46 (.len false (.t 45)), kn 47 (.call 62 [(.t 43), (.t 46)])])
 (.seq (.seq (.reg [kn 6 (.mv (kc 0))])
 (.block 2 (.loop c63l1)))
 (.seq (.reg [kn 80 (.mv (.t 0)), kn 81 (.fa (.t 3) 7), kn 82 (.ld (.t 81) 1 false), kn 83 (.len false (.t 82)), kn 84 (.call 62 [(.t 80), (.t 83)])])
 (.seq (.reg [kn 7 (.mv (kc 0))])
 (.block 4 (.loop c63l0)))))))))))
def r63 : List RC := []

def c98 : AC :=
 .seq (.reg [kn 2 (.mv (kc 0))])
 (.seq (.seq (.reg [kn 3 (.mv (.t 0))])
 (.cond (.t 3) (.seq (.reg [kn 2 (.mv (kc 1))])
 (.ret)) (.skip)))
 (.seq (.reg [kn 2 (.mv (kc 0))])
 (.ret)))
def r98 : List RC := [.t 2]

theorem cc63 : Try.f63.body.bind (comp Try.prog (hhW 63)) = some c63 := by kernel_rfl
theorem rr63 : resC Try.prog Try.f63 = some r63 := by kernel_rfl
theorem cc98 : Try.f98.body.bind (comp Try.prog (hhW 98)) = some c98 := by kernel_rfl
theorem rr98 : resC Try.prog Try.f98 = some r98 := by kernel_rfl
structure QS (G : List ABlk) (F : List Nat) (qb tb : Nat) (k : ABlk) (H : List ABlk) (x : AV) (l : List It) (n : Nat) : Prop where
 w : ∃ sp, QrAt H qb x (itsB l) sp ∧ (sp = true ↔ ∃ y ∈ l, ¬ itOk y)
 c : Chg G F H (WF qb x)
 t : H[tb]? = some k
 nt : tb ∉ WF qb x
 lb : tb < H.length
 m : l.length ≤ n
theorem QS.lt {G : List ABlk} {F : List Nat} {qb tb : Nat} {k : ABlk} {H : List ABlk} {x : AV} {l : List It} {n : Nat} (h : QS G F qb tb k H x l n) : ∀ b ∈ WF qb x, b < H.length := by
 obtain ⟨sp, h1, _⟩ := h.w
 exact h1.lt
theorem QS.up {G : List ABlk} {F : List Nat} {qb tb : Nat} {k : ABlk} {H : List ABlk} {x : AV} {l : List It} {n m : Nat} (h : QS G F qb tb k H x l n) (hm : n ≤ m) : QS G F qb tb k H x l m := ⟨h.w, h.c, h.t, h.nt, h.lb, Nat.le_trans h.m hm⟩
theorem QS.eqL {G : List ABlk} {F : List Nat} {qb tb : Nat} {k : ABlk} {H : List ABlk} {x : AV} {l l' : List It} {n : Nat} (h : QS G F qb tb k H x l n) (e : l = l') : QS G F qb tb k H x l' n := e ▸ h
theorem QS.ext {G : List ABlk} {F : List Nat} {qb tb : Nat} {k : ABlk} {H : List ABlk} {x : AV} {l : List It} {n : Nat} (h : QS G F qb tb k H x l n) (j : List ABlk) : QS G F qb tb k (H ++ j) x l n := by
 obtain ⟨sp, h1, h2⟩ := h.w
 exact ⟨⟨sp, h1.ext j, h2⟩, h.c.trans (Chg.app j), hold h.t j, h.nt, by rw [List.length_append]; have := h.lb; omega, h.m⟩
theorem QS.new {G : List ABlk} {F : List Nat} {qb tb : Nat} {k : ABlk} {H : List ABlk} {x : AV} {l : List It} {n : Nat} (h : QS G F qb tb k H x l n) (j : ABlk) : QS (H ++ [j]) (WF qb x) qb H.length j (H ++ [j]) x l n := by
 obtain ⟨sp, h1, h2⟩ := h.w
 exact ⟨⟨sp, h1.ext _, h2⟩, .rfl', List.getElem?_concat_length, fun hb => Nat.lt_irrefl _ (h1.lt _ hb), by simp, h.m⟩
theorem QS.back {G : List ABlk} {F : List Nat} {qb tb : Nat} {k j : ABlk} {H H' : List ABlk} {x x' : AV} {l l' : List It} {n n' : Nat} (h : QS G F qb tb k H x l n) (h' : QS (H ++ [j]) (WF qb x) qb H.length j H' x' l' n') : QS G F qb tb k H' x' l' n' := by
 obtain ⟨a, b, c⟩ := h'.c.keep (x := tb) (by rw [List.length_append]; have := h.lb; omega) h.nt
 refine ⟨h'.w, h.c.trans ((Chg.app [j]).trans h'.c), ?_, b, c, h'.m⟩
 rw [a, List.getElem?_append_left h.lb]; exact h.t
theorem QS.op {G : List ABlk} {F : List Nat} {qb tb : Nat} {k : ABlk} {H H' : List ABlk} {x x' : AV} {l : List It} {n : Nat} {bs : List UInt8} {sp sp' : Bool} {y : It} (h : QS G F qb tb k H x l n) (h0 : sp = true ↔ ∃ y ∈ l, ¬ itOk y) (h1 : QrAt H' qb x' (itsB l ++ bs) sp') (hb : itB y = bs) (hs : sp' = true ↔ sp = true ∨ ¬ itOk y) (h2 : Chg H (WF qb x) H' (WF qb x')) : QS G F qb tb k H' x' (l ++ [y]) (n + 1) := by
 obtain ⟨a, b, c⟩ := h2.keep h.lb h.nt
 refine ⟨⟨sp', ?_, ?_⟩, h.c.trans h2, a.trans h.t, b, c, by rw [List.length_append]; have := h.m; simp; omega⟩
 ·rw [itsB, List.flatMap_append, List.flatMap_singleton, hb]; exact h1
 ·rw [hs, h0]
  constructor
  ·rintro (⟨z, hz, e⟩ | e)
   ·exact ⟨z, List.mem_append_left _ hz, e⟩
   ·exact ⟨y, by simp, e⟩
  ·rintro ⟨z, hz, e⟩
   rcases List.mem_append.1 hz with hz | hz
   ·exact .inl ⟨z, hz, e⟩
   ·rw [List.mem_singleton] at hz; subst hz; exact .inr e
def QIt (G : List ABlk) (F : List Nat) (qb tb : Nat) (k : ABlk) (l : List It) (n : Nat) (v : AV) (H' : List ABlk) : Prop := v = .tup [] ∧ ∃ x', QS G F qb tb k H' x' l n
section
variable {G : List ABlk} {F : List Nat} {qb tb : Nat} {k : ABlk} {H : List ABlk} {x : AV} {l : List It} {n : Nat}
theorem QS.len (h : QS G F qb tb k H x l n) (hn : n ≤ 120000) : (itsB l).length ≤ 8000000 := by
 have := itsB_le l
 have := h.m
 omega
theorem QS.byte (h : QS G F qb tb k H x l n) (hn : n ≤ 120000) (a : Int) : ACalls Try.prog 64 [.ptr qb 0, iv a] H (QIt G F qb tb k (l ++ [iB a]) (n + 1)) := by
 have hl := h.len hn
 obtain ⟨sp, h1, h2⟩ := h.w
 refine (byteQ_c h1 (by omega) a).mono fun v H' => ?_
 rintro ⟨rfl, x', e1, e2⟩
 exact ⟨rfl, x', h.op h2 e1 (by rw [itB, if_pos rfl]) ⟨.inl, fun e => e.elim id fun e => absurd ⟨fun e => by simp at e, fun e => by simp at e⟩ e⟩ e2⟩
open Classical in
theorem QS.num (h : QS G F qb tb k H x l n) (hn : n ≤ 120000) (a : Int) : ACalls Try.prog 62 [.ptr qb 0, iv a] H (QIt G F qb tb k (l ++ [iN a]) (n + 1)) := by
 have hl := h.len hn
 obtain ⟨sp, h1, h2⟩ := h.w
 refine (numQ_c h1 (by omega) a).mono fun v H' => ?_
 rintro ⟨rfl, x', e1, e2⟩
 by_cases hf : fit32 a
 ·rw [if_pos hf, if_pos hf] at e1
  exact ⟨rfl, x', h.op h2 e1 (by rw [itB, if_neg (by simp), if_pos rfl, if_pos hf]) ⟨.inl, fun e => e.elim id fun e => absurd ⟨fun _ => hf, fun e => by simp at e⟩ e⟩ e2⟩
 ·rw [if_neg hf, if_neg hf] at e1
  exact ⟨rfl, x', h.op h2 (bs := []) (by rw [List.append_nil]; exact e1) (by rw [itB, if_neg (by simp), if_pos rfl, if_neg hf]) ⟨fun _ => .inr fun e => hf (e.1 rfl), fun _ => rfl⟩ e2⟩
theorem QS.word (h : QS G F qb tb k H x l n) (hn : n ≤ 120000) (a : Int) (h0 : 0 ≤ a) (h1 : a < 4294967296) : ACalls Try.prog 61 [.ptr qb 0, wv a] H (QIt G F qb tb k (l ++ [iW a]) (n + 1)) := by
 have hl := h.len hn
 obtain ⟨sp, g1, h2⟩ := h.w
 refine (wordQ_c g1 (by omega) a h0 h1).mono fun v H' => ?_
 rintro ⟨rfl, x', e1, e2⟩
 exact ⟨rfl, x', h.op h2 e1 (by rw [itB, if_neg (by simp), if_neg (by simp), if_pos rfl]) ⟨.inl, fun e => e.elim id fun e => absurd ⟨fun e => by simp at e, fun e => by simp at e⟩ e⟩ e2⟩
open Classical in
theorem QS.text (h : QS G F qb tb k H x l n) (hn : n ≤ 120000) (a : ByteArray) : ACalls Try.prog 60 [.ptr qb 0, sv a] H (QIt G F qb tb k (l ++ [iT a]) (n + 1)) := by
 have hl := h.len hn
 obtain ⟨sp, h1, h2⟩ := h.w
 refine (textQ_c h1 (by omega) a).mono fun v H' => ?_
 rintro ⟨rfl, x', e1, e2⟩
 by_cases hf : textOk a
 ·rw [if_pos hf, if_pos hf] at e1
  exact ⟨rfl, x', h.op h2 e1 (by rw [itB, if_neg (by simp), if_neg (by simp), if_neg (by simp), if_pos hf]) ⟨.inl, fun e => e.elim id fun e => absurd ⟨fun e => by simp at e, fun _ => hf⟩ e⟩ e2⟩
 ·rw [if_neg hf, if_neg hf] at e1
  exact ⟨rfl, x', h.op h2 (bs := []) (by rw [List.append_nil]; exact e1) (by rw [itB, if_neg (by simp), if_neg (by simp), if_neg (by simp), if_neg hf]) ⟨fun _ => .inr fun e => hf (e.2 (Nat.le_refl 3)), fun _ => rfl⟩ e2⟩
end
theorem flagR_c (b : Bool) (H : List ABlk) : ACalls Try.prog 98 [bv b] H fun v H' => v = iv (flagI b) ∧ H' = H := by
 refine ACalls.into Try.func98 cc98 rr98 fun hcl => ?_
 cases b <;> (
  simp (maxSteps := 2000000) (disch := omega) only [Try.ntmps98, c98, r98, go_sem, seval, reduceCtorEq]
  exact Ret.keep ⟨rfl, rfl⟩)
structure QG where
 i : Nat
 H : List ABlk
 x : AV

abbrev ib (a : Int) : List Dat := [.v (.int .i64 a)]
theorem typR_c {G : List ABlk} {F : List Nat} {qb tb : Nat} {k : ABlk} {H : List ABlk} {x : AV} {l : List It} {n : Nat} (h : QS G F qb tb k H x l n) (hn : n ≤ 119000) (t : Ty) (hf : t.fields.length ≤ 64) (hp : t.params.length ≤ 64) : ACalls Try.prog 63 [.ptr qb 0, t.av] H (QIt G F qb tb k (l ++ tyI t) (n + 330)) := by
 refine ACalls.into Try.func63 cc63 rr63 fun hcl => ?_
 obtain ⟨H0, hH0⟩ : ∃ H0, H ++ [ABlk.cells t.cs] = H0 := ⟨_, rfl⟩
 have hs0 := h.new (.cells t.cs)
 rw [hH0] at hs0
 have t0 := hs0.t
 simp only [Ty.cs] at hH0
 rw [show (ABlk.cells t.cs) = .cells [iv t.form, sv t.mod, sv t.name, iv t.len, iv t.elem, iv t.base, fdv t.fields, pmv t.params, iv t.result, iv t.desc] from rfl] at hs0 t0
 simp (maxSteps := 2000000) (disch := omega) only [Try.ntmps63, c63, r63, Ty.cs, hH0, t0, go_sem, seval, reduceCtorEq]
 refine Cont.rel (hs0.byte (by omega) _) ?_
 rintro v H1 ⟨rfl, x1, hs1⟩
 have t1 := hs1.t
 simp (maxSteps := 2000000) (disch := omega) only [t1, List.length_map, go_sem, seval, reduceCtorEq]
 refine Cont.rel (hs1.text (by omega) _) ?_
 rintro v H2 ⟨rfl, x2, hs2⟩
 have t2 := hs2.t
 simp (maxSteps := 2000000) (disch := omega) only [t2, List.length_map, go_sem, seval, reduceCtorEq]
 refine Cont.rel (hs2.text (by omega) _) ?_
 rintro v H3 ⟨rfl, x3, hs3⟩
 have t3 := hs3.t
 simp (maxSteps := 2000000) (disch := omega) only [t3, List.length_map, go_sem, seval, reduceCtorEq]
 obtain ⟨N, hN⟩ : ∃ N : List Int, N = [t.len, t.elem, t.base, t.result, t.desc] := ⟨_, rfl⟩
 have hN5 : N.length = 5 := by rw [hN]; rfl
 have hNs : AV.d (Dat.sl [[Dat.v (Value.int IntKind.i64 t.len)], [Dat.v (Value.int IntKind.i64 t.elem)], [Dat.v (Value.int IntKind.i64 t.base)], [Dat.v (Value.int IntKind.i64 t.result)], [Dat.v (Value.int IntKind.i64 t.desc)]]) = .d (.sl (N.map ib)) := by rw [hN]; rfl
 simp (maxSteps := 2000000) (disch := omega) only [hNs, go_sem, seval, reduceCtorEq]
 obtain ⟨S1, hS1⟩ : ∃ S1 : QG → List AV, ∀ g, S1 g = [.ptr qb 0, .any, .any, .ptr H.length 0, .d (.sl (N.map ib))] ++ [iv g.i] ++ List.replicate 103 .any := ⟨_, fun _ => rfl⟩
 obtain ⟨L3, hL3⟩ : ∃ L, L = l ++ [iB t.form] ++ [iT t.mod] ++ [iT t.name] := ⟨_, rfl⟩
 have q3 : QS H0 (WF qb x) qb H.length (.cells [iv t.form, sv t.mod, sv t.name, iv t.len, iv t.elem, iv t.base, fdv t.fields, pmv t.params, iv t.result, iv t.desc]) H3 x3 (L3 ++ (N.take 0).flatMap (fun a => [iN a])) (n + 3 + 0) := by
  rw [List.take_zero, List.flatMap_nil, List.append_nil, hL3]
  exact hs3.up (by omega)
 refine W.loopG (γ := QG) (fun g => N.length - g.i) S1 (fun g => g.H) (fun g => g.i ≤ N.length ∧ QS H0 (WF qb x) qb H.length (.cells [iv t.form, sv t.mod, sv t.name, iv t.len, iv t.elem, iv t.base, fdv t.fields, pmv t.params, iv t.result, iv t.desc]) g.H g.x (L3 ++ (N.take g.i).flatMap (fun a => [iN a])) (n + 3 + g.i)) ⟨0, H3, x3⟩ (Wk.slots (by rw [hS1]; exact WkL.tail 6 _ rfl (by simp only [List.take_succ_cons, List.take_zero]; repeat' first | exact WkL.nil | refine WkL.cons (Wk1.rfl _) ?_ | refine WkL.cons Wk1.esl ?_ | refine WkL.cons (Wk1.gsl _ _ _) ?_ | refine WkL.cons (Wk1.any _) ?_))) ⟨Nat.zero_le _, q3⟩ (fun g hg => ?_)
 obtain ⟨i, G3, y3⟩ := g
 obtain ⟨hi, hI3⟩ := hg
 simp only at hi hI3
 have u3 := hI3.t
 by_cases hi3 : i < N.length
 ·obtain ⟨e, he⟩ : ∃ e, N[i]? = some e := ⟨_, List.getElem?_eq_getElem hi3⟩
  have hem : e ∈ N := List.mem_of_getElem? he
  have hia := iaA_map ib 0 (l := N) (a := (i : Int)) (n := 1) (by omega) (by omega) rfl
  rw [show ((i : Nat) : Int).toNat = i from rfl, List.getD_eq_getElem?_getD, he, Option.getD_some] at hia
  have ss0 := hI3
  simp (maxSteps := 2000000) (disch := omega) only [hS1, c63l2, hia, ib, u3, List.length_map, go_sem, seval, reduceCtorEq]
  refine Cont.rel (ss0.num (by omega) _) ?_
  rintro v Hz ⟨rfl, xz, hz⟩
  have tz := hz.t
  simp (maxSteps := 2000000) (disch := omega) only [tz, List.length_map, go_sem, seval, reduceCtorEq]
  refine Nxt.mk ⟨i + 1, Hz, xz⟩ (by show N.length - (i + 1) < N.length - i; omega) (Wk.slots (by rw [hS1]; exact WkL.tail 6 _ rfl (by simp only [List.take_succ_cons, List.take_zero]; repeat' first | exact WkL.nil | refine WkL.cons (Wk1.rfl _) ?_ | refine WkL.cons Wk1.esl ?_ | refine WkL.cons (Wk1.gsl _ _ _) ?_ | refine WkL.cons (Wk1.any _) ?_))) ⟨hi3, ?_⟩
  show QS _ _ _ _ _ Hz xz (L3 ++ (N.take (i + 1)).flatMap (fun a => [iN a])) (n + 3 + (i + 1))
  rw [flat_s (fun a => [iN a]) N he, ← List.append_assoc]
  exact QS.eqL (hz.up (by omega)) (by simp only [List.append_assoc, List.cons_append, List.nil_append])
 have hin : i = N.length := by omega
 subst hin
 rw [List.take_length] at hI3
 have hs3 := hI3
 simp (maxSteps := 2000000) (disch := omega) only [hS1, c63l2, u3, List.length_map, go_sem, seval, reduceCtorEq]
 refine Cont.rel (hs3.num (by omega) _) ?_
 rintro v H4 ⟨rfl, x4, hs4⟩
 have t4 := hs4.t
 simp (maxSteps := 2000000) (disch := omega) only [t4, List.length_map, go_sem, seval, reduceCtorEq]
 obtain ⟨S2, hS2⟩ : ∃ S2 : QG → List AV, ∀ g, S2 g = [.ptr qb 0, .any, .any, .ptr H.length 0, .any, .any] ++ [iv g.i] ++ List.replicate 102 .any := ⟨_, fun _ => rfl⟩
 obtain ⟨L4, hL4⟩ : ∃ L, L = L3 ++ N.flatMap (fun a => [iN a]) ++ [iN t.fields.length] := ⟨_, rfl⟩
 have q4 : QS H0 (WF qb x) qb H.length (.cells [iv t.form, sv t.mod, sv t.name, iv t.len, iv t.elem, iv t.base, fdv t.fields, pmv t.params, iv t.result, iv t.desc]) H4 x4 (L4 ++ (t.fields.take 0).flatMap fdI) (n + 9 + 3 * 0) := by
  rw [List.take_zero, List.flatMap_nil, List.append_nil, hL4]
  exact hs4.up (by omega)
 refine W.loopG (γ := QG) (fun g => t.fields.length - g.i) S2 (fun g => g.H) (fun g => g.i ≤ t.fields.length ∧ QS H0 (WF qb x) qb H.length (.cells [iv t.form, sv t.mod, sv t.name, iv t.len, iv t.elem, iv t.base, fdv t.fields, pmv t.params, iv t.result, iv t.desc]) g.H g.x (L4 ++ (t.fields.take g.i).flatMap fdI) (n + 9 + 3 * g.i)) ⟨0, H4, x4⟩ (Wk.slots (by rw [hS2]; exact WkL.tail 7 _ rfl (by simp only [List.take_succ_cons, List.take_zero]; repeat' first | exact WkL.nil | refine WkL.cons (Wk1.rfl _) ?_ | refine WkL.cons Wk1.esl ?_ | refine WkL.cons (Wk1.gsl _ _ _) ?_ | refine WkL.cons (Wk1.any _) ?_))) ⟨Nat.zero_le _, q4⟩ (fun g hg => ?_)
 obtain ⟨i, G4, y4⟩ := g
 obtain ⟨hi, hI4⟩ := hg
 simp only at hi hI4
 have u4 := hI4.t
 by_cases hi3 : i < t.fields.length
 ·obtain ⟨e, he⟩ : ∃ e, t.fields[i]? = some e := ⟨_, List.getElem?_eq_getElem hi3⟩
  have hem : e ∈ t.fields := List.mem_of_getElem? he
  have hia := iaA_fd (t := t.fields) (a := i) (by omega) (by omega)
  rw [fdAt, show ((i : Nat) : Int).toNat = i from rfl, List.getD_eq_getElem?_getD, he, Option.getD_some] at hia
  have ss0 := hI4
  simp (maxSteps := 2000000) (disch := omega) only [hS2, c63l1, hia, Fd.c, u4, List.length_map, go_sem, seval, reduceCtorEq]
  refine Cont.rel (ss0.text (by omega) _) ?_
  rintro v J1 ⟨rfl, z1, ss1⟩
  have r1 := ss1.t
  simp (maxSteps := 2000000) (disch := omega) only [r1, hia, Fd.c, List.length_map, go_sem, seval, reduceCtorEq]
  refine Cont.mk (flagR_c _ _) ?_
  simp (maxSteps := 2000000) (disch := omega) only [go_sem, seval, reduceCtorEq]
  refine Cont.rel (ss1.byte (by omega) _) ?_
  rintro v J2 ⟨rfl, z2, ss2⟩
  have r2 := ss2.t
  simp (maxSteps := 2000000) (disch := omega) only [r2, hia, Fd.c, List.length_map, go_sem, seval, reduceCtorEq]
  refine Cont.rel (ss2.num (by omega) _) ?_
  rintro v Hz ⟨rfl, xz, hz⟩
  have tz := hz.t
  simp (maxSteps := 2000000) (disch := omega) only [tz, List.length_map, go_sem, seval, reduceCtorEq]
  refine Nxt.mk ⟨i + 1, Hz, xz⟩ (by show t.fields.length - (i + 1) < t.fields.length - i; omega) (Wk.slots (by rw [hS2]; exact WkL.tail 7 _ rfl (by simp only [List.take_succ_cons, List.take_zero]; repeat' first | exact WkL.nil | refine WkL.cons (Wk1.rfl _) ?_ | refine WkL.cons Wk1.esl ?_ | refine WkL.cons (Wk1.gsl _ _ _) ?_ | refine WkL.cons (Wk1.any _) ?_))) ⟨hi3, ?_⟩
  show QS _ _ _ _ _ Hz xz (L4 ++ (t.fields.take (i + 1)).flatMap fdI) (n + 9 + 3 * (i + 1))
  rw [flat_s fdI t.fields he, ← List.append_assoc]
  exact QS.eqL (hz.up (by omega)) (by simp only [fdI, List.append_assoc, List.cons_append, List.nil_append])
 have hin : i = t.fields.length := by omega
 subst hin
 rw [List.take_length] at hI4
 have hs4 := hI4
 simp (maxSteps := 2000000) (disch := omega) only [hS2, c63l1, u4, List.length_map, go_sem, seval, reduceCtorEq]
 refine Cont.rel (hs4.num (by omega) _) ?_
 rintro v H5 ⟨rfl, x5, hs5⟩
 have t5 := hs5.t
 simp (maxSteps := 2000000) (disch := omega) only [t5, List.length_map, go_sem, seval, reduceCtorEq]
 obtain ⟨S3, hS3⟩ : ∃ S3 : QG → List AV, ∀ g, S3 g = [.ptr qb 0, .any, .any, .ptr H.length 0, .any, .any, .any] ++ [iv g.i] ++ List.replicate 101 .any := ⟨_, fun _ => rfl⟩
 obtain ⟨L5, hL5⟩ : ∃ L, L = L4 ++ t.fields.flatMap fdI ++ [iN t.params.length] := ⟨_, rfl⟩
 have q5 : QS H0 (WF qb x) qb H.length (.cells [iv t.form, sv t.mod, sv t.name, iv t.len, iv t.elem, iv t.base, fdv t.fields, pmv t.params, iv t.result, iv t.desc]) H5 x5 (L5 ++ (t.params.take 0).flatMap pmI) (n + 202 + 2 * 0) := by
  rw [List.take_zero, List.flatMap_nil, List.append_nil, hL5]
  exact hs5.up (by omega)
 refine W.loopG (γ := QG) (fun g => t.params.length - g.i) S3 (fun g => g.H) (fun g => g.i ≤ t.params.length ∧ QS H0 (WF qb x) qb H.length (.cells [iv t.form, sv t.mod, sv t.name, iv t.len, iv t.elem, iv t.base, fdv t.fields, pmv t.params, iv t.result, iv t.desc]) g.H g.x (L5 ++ (t.params.take g.i).flatMap pmI) (n + 202 + 2 * g.i)) ⟨0, H5, x5⟩ (Wk.slots (by rw [hS3]; exact WkL.tail 8 _ rfl (by simp only [List.take_succ_cons, List.take_zero]; repeat' first | exact WkL.nil | refine WkL.cons (Wk1.rfl _) ?_ | refine WkL.cons Wk1.esl ?_ | refine WkL.cons (Wk1.gsl _ _ _) ?_ | refine WkL.cons (Wk1.any _) ?_))) ⟨Nat.zero_le _, q5⟩ (fun g hg => ?_)
 obtain ⟨i, G5, y5⟩ := g
 obtain ⟨hi, hI5⟩ := hg
 simp only at hi hI5
 have u5 := hI5.t
 by_cases hi3 : i < t.params.length
 ·obtain ⟨e, he⟩ : ∃ e, t.params[i]? = some e := ⟨_, List.getElem?_eq_getElem hi3⟩
  have hem : e ∈ t.params := List.mem_of_getElem? he
  have hia := iaA_pm (t := t.params) (a := i) (by omega) (by omega)
  rw [pmAt, show ((i : Nat) : Int).toNat = i from rfl, List.getD_eq_getElem?_getD, he, Option.getD_some] at hia
  have ss0 := hI5
  simp (maxSteps := 2000000) (disch := omega) only [hS3, c63l0, hia, Pm.c, u5, List.length_map, go_sem, seval, reduceCtorEq]
  refine Cont.mk (flagR_c _ _) ?_
  simp (maxSteps := 2000000) (disch := omega) only [go_sem, seval, reduceCtorEq]
  refine Cont.rel (ss0.byte (by omega) _) ?_
  rintro v J1 ⟨rfl, z1, ss1⟩
  have r1 := ss1.t
  simp (maxSteps := 2000000) (disch := omega) only [r1, hia, Pm.c, List.length_map, go_sem, seval, reduceCtorEq]
  refine Cont.rel (ss1.num (by omega) _) ?_
  rintro v Hz ⟨rfl, xz, hz⟩
  have tz := hz.t
  simp (maxSteps := 2000000) (disch := omega) only [tz, List.length_map, go_sem, seval, reduceCtorEq]
  refine Nxt.mk ⟨i + 1, Hz, xz⟩ (by show t.params.length - (i + 1) < t.params.length - i; omega) (Wk.slots (by rw [hS3]; exact WkL.tail 8 _ rfl (by simp only [List.take_succ_cons, List.take_zero]; repeat' first | exact WkL.nil | refine WkL.cons (Wk1.rfl _) ?_ | refine WkL.cons Wk1.esl ?_ | refine WkL.cons (Wk1.gsl _ _ _) ?_ | refine WkL.cons (Wk1.any _) ?_))) ⟨hi3, ?_⟩
  show QS _ _ _ _ _ Hz xz (L5 ++ (t.params.take (i + 1)).flatMap pmI) (n + 202 + 2 * (i + 1))
  rw [flat_s pmI t.params he, ← List.append_assoc]
  exact QS.eqL (hz.up (by omega)) (by simp only [pmI, List.append_assoc, List.cons_append, List.nil_append])
 have hin : i = t.params.length := by omega
 subst hin
 rw [List.take_length] at hI5
 have hs5 := hI5
 simp (maxSteps := 2000000) (disch := omega) only [hS3, c63l0, u5, List.length_map, go_sem, seval, reduceCtorEq]
 have hb := QS.back h (by rw [hH0]; exact hs5)
 refine Ret.keep ⟨rfl, y5, ?_⟩
 refine QS.eqL (hb.up (by omega)) ?_
 rw [hL5, hL4, hL3, hN, tyI]
 simp only [List.append_assoc, List.cons_append, List.nil_append, List.flatMap_cons, List.flatMap_nil]
end Go.Proofs.Ythifjndenhjobaa.Rid
