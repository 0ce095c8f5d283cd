/- The writer. -/
import Derived.Test.YthifjndenhjobaaGreatVB2
set_option linter.unusedSectionVars false
set_option linter.unusedSimpArgs false
set_option linter.unusedVariables false
set_option maxHeartbeats 2000000
set_option maxRecDepth 20000
namespace Go.Proofs.YthifjndenhjobaaGreat.Rid
open Go.RowKit
def c35 : AC :=
 sr [im 0 (.c .nilp)]
 (sr [kn 1 (.bd [.esl, (.d (.v (.bool false))), (.d (.v (.bool false)))] []), kn 2 (.bx t1), im 0 t2]
 (.ret))
def r35 : List RC := [.t 0]
def c36 : AC :=
 .seq (sr [im 4 t1, kn 5 (.len true t4), ib 6 .gtr t5 (kc 64), im 7 t6, ko 8 7 (.mv t1), ko 9 7 (.call 43 [t8, (.c (.d (.v (.int .u8 0))))]), ko 10 7 (.bin .geq t9 (kc 0)), kn 11 (.pick t7 kT t10)]
 (.cond t11 (sr [im 12 t0, ic 13 61 [t12]]
 (.ret)) (.skip)))
 (.reg [im 14 t0, im 15 t1, kn 16 (.bin .add t15 (.c (.d (.v (.string ⟨#[0]⟩))))), ic 17 62 [t14, t16]])
def r36 : List RC := []
def c38 : AC :=
 .seq (sr [im 4 t1, ic 5 48 [t4, (kc 32)], kn 6 (.un .not t5)]
 (.cond t6 (sr [im 7 t0, ic 8 61 [t7]]
 (.ret)) (.skip)))
 (.reg [im 9 t0, im 10 t1, ic 11 49 [t10], ic 12 62 [t9, t11]])
def r38 : List RC := []
def c40 : AC :=
 .reg [im 4 t0, im 5 t1, kn 6 (.cvi .u8 t5), kn 7 (.bs .im 5 1 [t6]), kn 8 (.b2s t7), ic 9 62 [t4, t8]]
def r40 : List RC := []
def c42 : AC :=
 sr [im 2 (.c ks), im 3 (kc 0)]
 (.seq (sr [im 4 t0, kn 5 (.eqp false t4 (.c .nilp)), im 6 t5, ko 7 6 (.mv t0), ko 8 6 (.nc t7), ko 9 6 (.fa t8 1), ko 10 6 (.ld t9 1 false), kn 11 (.pick t6 kT t10)]
 (.cond t11 (sr [im 2 (.c ks), im 3 (kc 1)]
 (.ret)) (.skip)))
 (.seq (sr [im 12 t0, iv0 13 t12, ia 14 t13 2, il 15 t14]
 (.cond t15 (sr [im 2 (.c ks), im 3 (kc 2)]
 (.ret)) (.skip)))
 (sr [im 16 t0, iv0 17 t16, ia 18 t17 0, il 19 t18, kn 20 (.b2s t19), im 2 t20, im 3 (kc 0)]
 (.ret))))
def r42 : List RC := [.t 2, .t 3]
def c61 : AC :=
 sr [im 2 t0, kn 3 (.eqp true t2 (.c .nilp))]
 (.cond t3 (.reg [im 4 t0, iv0 5 t4, ia 6 t5 1, ke (.st t6 kT 1)]) (.skip))
def r61 : List RC := []
def c62 : AC :=
 .seq (sr [im 4 t0, kn 5 (.eqp false t4 (.c .nilp)), im 6 t5, ko 7 6 (.mv t0), ko 8 6 (.nc t7), ko 9 6 (.fa t8 2), ko 10 6 (.ld t9 1 false), kn 11 (.pick t6 kT t10)]
 (.cond t11 (.ret) (.skip)))
 (sr [im 12 t0, im 13 t0, iv0 14 t13, ia 15 t14 0, il 16 t15, im 17 t1, kn 18 (.app .gr 5 1 1 t16 t17), iv0 19 t12, ia 20 t19 0, ke (.st t20 t18 1)]
 (.reg [im 21 t0, im 22 t0, iv0 23 t22, ia 24 t23 0, il 25 t24, kn 26 (.len false t25), ib 27 .gtr t26 (kc 131072), iv0 28 t21, ia 29 t28 2, ke (.st t29 t27 1)]))
def r62 : List RC := []
theorem cc35 : cK Tryz.f35 (hhW 35) c35 := by unfold cK; kernel_rfl
theorem rr35 : resC Tryz.prog Tryz.f35 = some r35 := by kernel_rfl
theorem cc36 : cK Tryz.f36 (hhW 36) c36 := by unfold cK; kernel_rfl
theorem rr36 : resC Tryz.prog Tryz.f36 = some r36 := by kernel_rfl
theorem cc38 : cK Tryz.f38 (hhW 38) c38 := by unfold cK; kernel_rfl
theorem rr38 : resC Tryz.prog Tryz.f38 = some r38 := by kernel_rfl
theorem cc40 : cK Tryz.f40 (hhW 40) c40 := by unfold cK; kernel_rfl
theorem rr40 : resC Tryz.prog Tryz.f40 = some r40 := by kernel_rfl
theorem cc42 : cK Tryz.f42 (hhW 42) c42 := by unfold cK; kernel_rfl
theorem rr42 : resC Tryz.prog Tryz.f42 = some r42 := by kernel_rfl
theorem cc61 : cK Tryz.f61 (hhW 61) c61 := by unfold cK; kernel_rfl
theorem rr61 : resC Tryz.prog Tryz.f61 = some r61 := by kernel_rfl
theorem cc62 : cK Tryz.f62 (hhW 62) c62 := by unfold cK; kernel_rfl
theorem rr62 : resC Tryz.prog Tryz.f62 = some r62 := by kernel_rfl
def RowB (H : List ABlk) (x : AV) (bs : List UInt8) : Prop := (x = .esl /\ bs = []) \/ ∃ b, x = .gsl b 1 (bs.map bd) /\ H[b]? = some (.row 5 1 bs.length)
def rowB : AV -> List Nat
 | .gsl b _ _ => [b]
 | _ => []
structure Wr where
 bs : List UInt8
 sp : Bool
 tl : Bool
structure WrAt (H : List ABlk) (wb : Nat) (x : AV) (w : Wr) : Prop where
 c : H[wb]? = some (.cells [x, bv w.sp, bv w.tl])
 r : RowB H x w.bs
 ne : wb ∉ rowB x
 ok : w.tl = decide (131072 < w.bs.length)
 len : w.bs.length <= 500000
def WF (wb : Nat) (x : AV) : List Nat := wb :: rowB x
structure Chg (H : List ABlk) (F : List Nat) (H' : List ABlk) (F' : List Nat) : Prop where
 len : H.length <= H'.length
 out : ∀ b, b < H.length -> b ∉ F -> H'[b]? = H[b]?
 sub : ∀ b ∈ F', b ∈ F \/ H.length <= b
theorem Chg.rfl' {H : List ABlk} {F : List Nat} : Chg H F H F := ⟨Nat.le_refl _, fun _ _ _ => rfl, fun _ h => .inl h⟩
theorem Chg.trans {H H' H'' : List ABlk} {F F' F'' : List Nat} (h : Chg H F H' F') (k : Chg H' F' H'' F'') : Chg H F H'' F'' :=
 ⟨Nat.le_trans h.len k.len, fun b hb hF => by
   rw [k.out b (Nat.lt_of_lt_of_le hb h.len) (fun hf => by rcases h.sub b hf with h1 | h1; exact hF h1; omega), h.out b hb hF], fun b hb => by
   rcases k.sub b hb with h1 | h1
   ·exact h.sub b h1
   ·exact .inr (Nat.le_trans h.len h1)⟩
def Ow (G : List ABlk) (F : List Nat) (H : List ABlk) : Prop := G <+: H /\ ∀ b ∈ F, G.length <= b
theorem pre_of {G H : List ABlk} (hl : G.length <= H.length) (h : ∀ b, b < G.length -> H[b]? = G[b]?) : G <+: H := by
 refine ⟨H.drop G.length, ?_⟩
 apply List.ext_getElem?
 intro i
 by_cases hi : i < G.length
 ·rw [List.getElem?_append_left hi, h i hi]
 ·rw [List.getElem?_append_right (by omega), List.getElem?_drop]
  congr 1; omega
theorem Ow.chg {G H H' : List ABlk} {F F' : List Nat} (h : Ow G F H) (hc : Chg H F H' F') : Ow G F' H' := by
 have hl := h.1.length_le; refine ⟨pre_of (Nat.le_trans hl hc.len) fun b hb => ?_, fun b hb => ?_⟩
 ·rw [hc.out b (by omega) (fun hF => by have := h.2 b hF; omega)]
  obtain ⟨t, rfl⟩ := h.1; rw [List.getElem?_append_left hb]
 ·rcases hc.sub b hb with h1 | h1
  ·exact h.2 b h1
  ·omega
theorem WrAt.lt {H : List ABlk} {wb : Nat} {x : AV} {w : Wr} (h : WrAt H wb x w) : ∀ b ∈ WF wb x, b < H.length := fun b hb => by
 simp only [WF, List.mem_cons] at hb; rcases hb with rfl | hb
 ·exact (List.getElem?_eq_some_iff.1 h.c).1
 ·rcases h.r with ⟨rfl, _⟩ | ⟨c, rfl, hc⟩
  ·simp [rowB] at hb
  ·simp [rowB] at hb; subst hb; exact (List.getElem?_eq_some_iff.1 hc).1
theorem WrAt.frame {H H' : List ABlk} {wb : Nat} {x : AV} {w : Wr} (h : WrAt H wb x w) (hH : ∀ b ∈ WF wb x, H'[b]? = H[b]?) : WrAt H' wb x w where
 c := by rw [hH wb (by simp [WF]), h.c]
 r := by
  rcases h.r with h1 | ⟨b, rfl, h2⟩
  ·exact .inl h1
  ·exact .inr ⟨b, rfl, by rw [hH b (by simp [WF, rowB]), h2]⟩
 ne := h.ne
 ok := h.ok
 len := h.len
def putW (w : Wr) (l : List UInt8) : Wr := if w.tl = true then w else ⟨w.bs ++ l, w.sp, decide (131072 < (w.bs ++ l).length)⟩
theorem write_c (H : List ABlk) : ACalls Tryz.prog 35 [] H fun v H' => v = .ptr H.length 0 /\ H' = H ++ [.cells [.esl, bv false, bv false]] := by
 refine ACalls.into Tryz.func35 cc35 rr35 fun hcl => ?_
 simp (disch := omega) only [Tryz.ntmps35, c35, r35, go_sem, seval, reduceCtorEq]; exact Ret.keep ⟨rfl, rfl⟩
theorem WrAt.new (H : List ABlk) : WrAt (H ++ [.cells [.esl, bv false, bv false]]) H.length .esl ⟨[], false, false⟩ :=
 ⟨by rw [hg0]; rfl, .inl ⟨rfl, rfl⟩, by simp [rowB], by simp, by simp⟩
theorem str_d (s : ByteArray) : (s.data.toList.map fun b => [AV.d (.v (.int .u8 b.toNat))]) = (s.data.toList.map bd).map (·.map AV.d) := by simp
theorem len_data (s : ByteArray) : s.data.toList.length = s.size := by rw [Array.length_toList]; rfl
def WOp (H : List ABlk) (wb : Nat) (x : AV) (w' : Wr) (v : AV) (H' : List ABlk) : Prop := v = .tup [] /\ ∃ x', WrAt H' wb x' w' /\ Chg H (WF wb x) H' (WF wb x')
theorem put_c {H : List ABlk} {wb : Nat} {x : AV} {w : Wr} (h : WrAt H wb x w) (s : ByteArray) (hs : s.size <= 300000) : ACalls Tryz.prog 62 [.ptr wb 0, sv s] H (WOp H wb x (putW w s.data.toList)) := by
 refine ACalls.into Tryz.func62 cc62 rr62 fun hcl => ?_
 have hw := h.c; have hsz := len_data s; obtain ⟨bs, sp, tl⟩ := w; simp only at hw
 cases tl with
 | true =>
  simp (disch := omega) only [Tryz.ntmps62, c62, r62, hw, go_sem, seval, reduceCtorEq]; exact Ret.keep ⟨rfl, x, by rw [putW, if_pos rfl]; exact h, .rfl'⟩
 | false =>
  have hlen : bs.length <= 131072 := by
   have := h.ok; simp only at this; have := of_decide_eq_false this.symm; omega
  have hp : putW ⟨bs, sp, false⟩ s.data.toList = ⟨bs ++ s.data.toList, sp, decide (131072 < (bs ++ s.data.toList).length)⟩ := by rw [putW, if_neg (by simp)]
  have hl : (bs ++ s.data.toList).length = bs.length + s.size := by rw [List.length_append, hsz]
  have hda : datss ((s.data.toList.map bd).map (·.map AV.d)) = some (s.data.toList.map bd) := datss_map_d _; have hlm : (s.data.toList.map bd).length = s.size := by rw [lnm, hsz]
  have hwl := (List.getElem?_eq_some_iff.1 hw).1; have hdec : decide (((bs.length : Int) + (s.size : Int)) > 131072) = decide (131072 < (bs ++ s.data.toList).length) := decide_eq_decide.2 (by rw [hl]; omega); rw [hp]; rcases h.r with ⟨rfl, hb0⟩ | ⟨b, rfl, hb⟩
  ·simp only at hb0
   subst hb0; have hW : ∀ l, (H ++ l)[wb]? = some (.cells [.esl, bv sp, bv false]) := fun l => hold hw l
   have hS : ∀ l y, ((H ++ l).set wb y)[wb]? = some y := fun l y => List.getElem?_set_self (by simp; omega)
   simp (disch := omega) only [Tryz.ntmps62, c62, r62, hw, elems_s, str_d, hda, hlm, hW, hS, List.set_set, go_sem, seval, reduceCtorEq]; have hd1 : decide ((131072 : Int) < (s.size : Int)) = decide (131072 < s.data.toList.length) := decide_eq_decide.2 (by omega); rw [hd1]; refine Ret.keep ⟨rfl, .gsl H.length 1 (s.data.toList.map bd), ⟨hS _ _, .inr ⟨H.length, rfl, ?_⟩, ?_, rfl, ?_⟩, ?_, fun c hc hF => ?_, fun c hc => ?_⟩
   ·rw [getset_ne (by omega), hg0]; simp [hsz]
   ·simp [rowB]; omega
   ·show s.data.toList.length <= 500000; omega
   ·simp
   ·rw [getset_ne (fun e => hF (by rw [<- e]; simp [WF])), List.getElem?_append_left hc]
   ·simp only [WF, rowB, List.mem_cons, List.not_mem_nil, or_false] at hc ⊢
    rcases hc with hc | hc
    ·exact .inl hc
    ·exact .inr (by omega)
  ·have hne : b ≠ wb := fun e => h.ne (by rw [<- e]; simp [rowB])
   simp only at hb; have hW : ∀ y, (H.set b y)[wb]? = some (.cells [.gsl b 1 (bs.map bd), bv sp, bv false]) := fun y => by rw [getset_ne hne, hw]
   have hS : ∀ y z, ((H.set b y).set wb z)[wb]? = some z := fun y z => List.getElem?_set_self (by simp; omega)
   have hlb : (bs.map bd).length = bs.length := lnm ..; have h1 : (bs.length + s.size) * 1 <= 140737488355328 := by omega
   simp (disch := omega) only [Tryz.ntmps62, c62, r62, hw, elems_s, str_d, hda, hlm, hlb, hb, hW, hS, List.set_set, go_sem, seval, reduceCtorEq]; have hd1 : decide ((131072 : Int) < ((bs.length + s.size : Nat) : Int)) = decide (131072 < bs.length + s.data.toList.length) := decide_eq_decide.2 (by omega); rw [hd1, <- List.map_append]; have hbl := (List.getElem?_eq_some_iff.1 hb).1; refine Ret.keep ⟨rfl, .gsl b 1 ((bs ++ s.data.toList).map bd), ⟨hS _ _, .inr ⟨b, rfl, ?_⟩, ?_, ?_, ?_⟩, ?_, fun c hc hF => ?_, fun c hc => .inl hc⟩
   ·rw [getset_ne (Ne.symm hne), List.getElem?_set_self hbl]; simp [hsz]
   ·simp [rowB]; omega
   ·show decide (131072 < bs.length + s.data.toList.length) = decide (131072 < (bs ++ s.data.toList).length)
    rw [List.length_append]
   ·show (bs ++ s.data.toList).length <= 500000; rw [hl]; omega
   ·simp
   ·simp only [WF, rowB, List.mem_cons, List.not_mem_nil, or_false, not_or] at hF
    rw [getset_ne (Ne.symm hF.1), getset_ne (Ne.symm hF.2)]
theorem spoil_c {H : List ABlk} {wb : Nat} {x : AV} {w : Wr} (h : WrAt H wb x w) : ACalls Tryz.prog 61 [.ptr wb 0] H (WOp H wb x ⟨w.bs, true, w.tl⟩) := by
 refine ACalls.into Tryz.func61 cc61 rr61 fun hcl => ?_
 have hwl := (List.getElem?_eq_some_iff.1 h.c).1; simp (disch := omega) only [Tryz.ntmps61, c61, r61, h.c, go_sem, seval, reduceCtorEq]; refine Ret.keep ⟨rfl, x, ⟨List.getElem?_set_self hwl, ?_, h.ne, h.ok, h.len⟩, by simp, fun b hb hF => getset_ne (fun e => hF (by rw [<- e]; simp [WF])), fun b hb => .inl hb⟩; rcases h.r with h1 | ⟨b, rfl, h2⟩
 ·exact .inl h1
 ·exact .inr ⟨b, rfl, by rw [getset_ne (fun e => h.ne (by rw [e]; simp [rowB])), h2]⟩
def byteW (n : Int) : List UInt8 := [UInt8.ofNat (n % 256).toNat]
theorem u8of {n : Int} (h0 : 0 <= n) (h1 : n < 256) : ((UInt8.ofNat n.toNat).toNat : Int) = n := by rw [u8n (by omega)]; omega
theorem byteW_c {H : List ABlk} {wb : Nat} {x : AV} {w : Wr} (h : WrAt H wb x w) (n : Int) : ACalls Tryz.prog 40 [.ptr wb 0, iv n] H (WOp H wb x (putW w (byteW n))) := by
 refine ACalls.into Tryz.func40 cc40 rr40 fun hcl => ?_
 simp (disch := omega) only [Tryz.ntmps40, c40, r40, bytesOf, go_sem, seval, reduceCtorEq]; refine Cont.rel (put_c h _ (by show (1 : Nat) <= 300000; omega)) ?_; rintro v H' ⟨rfl, x', h1, h2⟩; simp (disch := omega) only [go_sem, seval, reduceCtorEq]; exact Ret.keep ⟨rfl, x', h1, h2⟩
def numW (w : Wr) (n : Int) : Wr := if fit32 n then putW w (comp7 n) else ⟨w.bs, true, w.tl⟩
theorem numW_c {H : List ABlk} {wb : Nat} {x : AV} {w : Wr} (h : WrAt H wb x w) (n : Int) : ACalls Tryz.prog 38 [.ptr wb 0, iv n] H (WOp H wb x (numW w n)) := by
 refine ACalls.into Tryz.func38 cc38 rr38 fun hcl => ?_
 simp (disch := omega) only [Tryz.ntmps38, c38, r38, go_sem, seval, reduceCtorEq]; refine Cont.mk (fits32_c n H) ?_
 by_cases hf : fit32 n
 ·simp (disch := omega) only [decide_eq_true hf, go_sem, seval, reduceCtorEq]
  refine Cont.mk (compact_c n hf H) ?_; simp (disch := omega) only [go_sem, seval, reduceCtorEq]; refine Cont.rel (put_c h _ (by have := comp7_le n; show (comp7 n).toArray.size <= 300000; simp; omega)) ?_; rintro v H' ⟨rfl, x', h1, h2⟩; simp (disch := omega) only [go_sem, seval, reduceCtorEq]; exact Ret.keep ⟨rfl, x', by rw [numW, if_pos hf]; exact h1, h2⟩
 ·simp (disch := omega) only [decide_eq_false hf, go_sem, seval, reduceCtorEq]
  refine Cont.rel (spoil_c h) ?_; rintro v H' ⟨rfl, x', h1, h2⟩; simp (disch := omega) only [go_sem, seval, reduceCtorEq]; exact Ret.keep ⟨rfl, x', by rw [numW, if_neg hf]; exact h1, h2⟩
theorem idxB_pos {l : List UInt8} {c : UInt8} : 0 <= idxB l c ↔ c ∈ l := by
 induction l with
 | nil => simp [idxB]
 | cons b l ih =>
  unfold idxB
  split
  ·rename_i h; simp at h; simp [h]
  ·rename_i h
   have hne : c ≠ b := fun e => h (by simp [e])
   split
   ·rename_i h2
    have hn : c ∉ l := fun e => by have := ih.2 e; simp at h2; omega
    simp [hne, hn]
   ·rename_i h2
    simp at h2; have : -1 <= idxB l c := by
     clear ih h2 h hne
     induction l with
     | nil => simp [idxB]
     | cons b l ih =>
      unfold idxB
      split
      ·omega
      ·split
       ·omega
       ·omega
    simp only [List.mem_cons, hne, false_or, <- ih]; omega
def textOk (s : ByteArray) : Prop := s.size <= 64 /\ (0 : UInt8) ∉ s.data.toList
open Classical in
noncomputable def textW (w : Wr) (s : ByteArray) : Wr := if textOk s then putW w (s.data.toList ++ [0]) else ⟨w.bs, true, w.tl⟩
theorem app_data (s t : ByteArray) : (s ++ t).data.toList = s.data.toList ++ t.data.toList := ByteArray.toList_data_append
theorem app_size (s t : ByteArray) : (s ++ t).size = s.size + t.size := ByteArray.size_append
theorem textW_c {H : List ABlk} {wb : Nat} {x : AV} {w : Wr} (h : WrAt H wb x w) (s : ByteArray) : ACalls Tryz.prog 36 [.ptr wb 0, sv s] H (WOp H wb x (textW w s)) := by
 refine ACalls.into Tryz.func36 cc36 rr36 fun hcl => ?_
 by_cases h1 : 64 < s.size
 ·simp (disch := omega) only [Tryz.ntmps36, c36, r36, go_sem, seval, reduceCtorEq]
  refine Cont.rel (spoil_c h) ?_; rintro v H' ⟨rfl, x', h1', h2⟩; simp (disch := omega) only [go_sem, seval, reduceCtorEq]; exact Ret.keep ⟨rfl, x', by rw [textW, if_neg (fun e => by have := e.1; omega)]; exact h1', h2⟩
 simp (disch := omega) only [Tryz.ntmps36, c36, r36, go_sem, seval, reduceCtorEq]; refine Cont.mk (indexB_c s 0 H) ?_; have e0 : UInt8.ofNat (0 : Int).toNat = 0 := rfl; rw [e0]
 by_cases h2 : 0 <= idxB s.data.toList 0
 ·simp (disch := omega) only [go_sem, seval, reduceCtorEq]
  refine Cont.rel (spoil_c h) ?_; rintro v H' ⟨rfl, x', h1', h2'⟩; simp (disch := omega) only [go_sem, seval, reduceCtorEq]; exact Ret.keep ⟨rfl, x', by rw [textW, if_neg (fun e => e.2 (idxB_pos.1 h2))]; exact h1', h2'⟩
 ·have hz : (⟨#[0]⟩ : ByteArray).size = 1 := rfl
  have hlt : ¬ ((s.size : Int) + 1 > IntKind.i64.max) := by
   have : IntKind.i64.max = 9223372036854775807 := by decide
   omega
  simp (disch := omega) only [hz, hlt, go_sem, seval, reduceCtorEq]; refine Cont.rel (put_c h (s ++ ⟨#[0]⟩) (by rw [app_size, hz]; omega)) ?_; rintro v H' ⟨rfl, x', h1', h2'⟩; simp (disch := omega) only [go_sem, seval, reduceCtorEq]; refine Ret.keep ⟨rfl, x', ?_, h2'⟩; rw [textW, if_pos ⟨by omega, fun e => h2 (idxB_pos.2 e)⟩]; rw [app_data] at h1'; exact h1'
theorem bytesW_c {H : List ABlk} {wb : Nat} {x : AV} {w : Wr} (h : WrAt H wb x w) : ACalls Tryz.prog 42 [.ptr wb 0] H fun v H' => v = .tup (if w.sp = true then [sv nl, iv 1] else if w.tl = true then [sv nl, iv 2] else [sv ⟨w.bs.toArray⟩, iv 0]) /\ H' = H := by
 refine ACalls.into Tryz.func42 cc42 rr42 fun hcl => ?_
 have hw := h.c
 cases e1 : w.sp with
 | true =>
  rw [e1] at hw; simp (disch := omega) only [Tryz.ntmps42, c42, r42, hw, go_sem, seval, reduceCtorEq]; exact Ret.keep ⟨rfl, rfl⟩
 | false =>
  rw [e1] at hw
  cases e2 : w.tl with
  | true =>
   rw [e2] at hw; simp (disch := omega) only [Tryz.ntmps42, c42, r42, hw, go_sem, seval, reduceCtorEq]; exact Ret.keep ⟨rfl, rfl⟩
  | false =>
   rw [e2] at hw; rcases h.r with ⟨rfl, hb0⟩ | ⟨b, rfl, hb⟩
   ·simp (disch := omega) only [Tryz.ntmps42, c42, r42, hw, elems_e, bytesOf, go_sem, seval, reduceCtorEq]
    exact Ret.keep ⟨by rw [hb0], rfl⟩
   ·simp (disch := omega) only [Tryz.ntmps42, c42, r42, hw, elems_g, bytesOf_bd, go_sem, seval, reduceCtorEq]
    exact Ret.keep ⟨rfl, rfl⟩
def c37l0 : AC :=
 sr [ib 7 .lss t6 (kc 4)]
 (.seq (.cond t7 (.skip) (.exit 0))
 (.seq (.block 1 (sr [im 8 t6, im 5 t8]
 (.reg [im 9 t5, im 10 t1, im 11 t5, kn 12 (.bin .mul (kc 8) t11), ib 13 .shr t10 t12, kn 14 (.cvi .u8 t13), kn 15 (.iar t4 t9 4 1), ke (.st t15 t14 1)])))
 (.reg [ib 16 .add t6 (kc 1), im 6 t16])))
def c37 : AC :=
 sr [kn 4 (.al [(.d (.v (.int .u8 0))), (.d (.v (.int .u8 0))), (.d (.v (.int .u8 0))), (.d (.v (.int .u8 0)))])]
 (.seq (sr [im 6 (kc 0)]
 (.block 0 (.loop c37l0)))
 (.reg [im 17 t0, kn 18 (.sla t4 none none 4 1), kn 19 (.b2s t18), ic 20 62 [t17, t19]]))
def r37 : List RC := []
theorem cc37 : cK Tryz.f37 (hhW 37) c37 := by unfold cK; kernel_rfl
theorem rr37 : resC Tryz.prog Tryz.f37 = some r37 := by kernel_rfl
def wB (x : Int) (j : Nat) : UInt8 := UInt8.ofNat (x / 256 ^ j % 256).toNat
def wordB (x : Int) : List UInt8 := [wB x 0, wB x 1, wB x 2, wB x 3]
theorem wBn (x : Int) (j : Nat) : ((wB x j).toNat : Int) = x / 256 ^ j % 256 := by rw [wB, u8of (by omega) (by omega)]
def wcs (x : Int) (i : Nat) : List AV := (List.range 4).map fun j => if j < i then cv (wB x j).toNat else cv 0
theorem WrAt.ext {H : List ABlk} {wb : Nat} {x : AV} {w : Wr} (h : WrAt H wb x w) (l : List ABlk) : WrAt (H ++ l) wb x w := h.frame fun b hb => List.getElem?_append_left (h.lt b hb)
theorem Chg.app {H : List ABlk} {F : List Nat} (l : List ABlk) : Chg H F (H ++ l) F := ⟨by simp, fun b hb _ => List.getElem?_append_left hb, fun _ h => .inl h⟩
theorem wordW_c {H : List ABlk} {wb : Nat} {x : AV} {w : Wr} (h : WrAt H wb x w) (n : Int) (h0 : 0 <= n) (h1 : n < 4294967296) : ACalls Tryz.prog 37 [.ptr wb 0, wv n] H (WOp H wb x (putW w (wordB n))) := by
 refine ACalls.into Tryz.func37 cc37 rr37 fun hcl => ?_
 simp (disch := omega) only [Tryz.ntmps37, c37, r37, go_sem, seval, reduceCtorEq]; obtain ⟨S, hS⟩ : ∃ S : Nat -> List AV, ∀ i, S i = [.ptr wb 0, wv n, .any, .any, .ptr H.length 0, .any, iv i] ++ List.replicate 14 .any := ⟨_, fun _ => rfl⟩; have hB : ∀ y, (H ++ [y])[H.length]? = some y := fun y => by rw [hg0]; rfl
 have hset : ∀ x y : ABlk, (H ++ [x]).set H.length y = H ++ [y] := fun x y => by rw [hs0]; rfl
 have b0 := wBn n 0; have b1 := wBn n 1; have b2 := wBn n 2; have b3 := wBn n 3; simp only [Int.reducePow] at b0 b1 b2 b3; refine W.loopG (γ := Nat) (fun i => 4 - i) S (fun i => H ++ [.cells (wcs n i)]) (fun i => i <= 4) 0 ?_ (by omega) (fun i hi => ?_)
 ·exact Wk.slots (WkL.tw 7 (hS _))
 have hwl : (wcs n i).length = 4 := rfl
 by_cases hi4 : i < 4
 ·have e8 : (8 * (i : Int)).toNat = 8 * i := by omega
  have hst : (wcs n i).take i ++ AV.d (.v (.int .u8 (n / 2 ^ (8 * i) % 256))) :: (wcs n i).drop (i + 1) = wcs n (i + 1) := by
   rcases (by omega : i = 0 \/ i = 1 \/ i = 2 \/ i = 3) with rfl | rfl | rfl | rfl <;> simp [wcs, List.range, List.range.loop, b0, b1, b2, b3]
  simp (disch := omega) only [hS, c37l0, hB, hset, hwl, e8, hst, go_sem, seval, reduceCtorEq]; exact Nxt.mk (i + 1) (by omega) (Wk.slots (WkL.tw 7 (hS _))) (by omega)
 ·have hie : i = 4 := by omega
  subst hie; have hel : elemsA (H ++ [ABlk.cells (wcs n 4)]) 1 (.hsl H.length 0 4 4 1) = some (((wordB n).map bd).map (·.map AV.d)) := by
   simp only [elemsA, hB]; rw [if_pos ⟨by rw [hwl]; omega, trivial⟩]; simp [wcs, wordB, List.range, List.range.loop]
  simp (disch := omega) only [hS, c37l0, hB, hwl, hel, bytesOf_bd, go_sem, seval, reduceCtorEq]; refine Cont.rel (put_c (h.ext [.cells (wcs n 4)]) _ (by show (4 : Nat) <= 300000; omega)) ?_; rintro v H' ⟨rfl, x', h1', h2'⟩; simp (disch := omega) only [go_sem, seval, reduceCtorEq]; exact Ret.keep ⟨rfl, x', h1', (Chg.app _).trans h2'⟩
def c66l0 : AC :=
 .seq (sr [im 10 t1, ib 11 .lss t10 (kc (-64)), im 12 t11, ko 13 12 (.mv t1), ko 14 12 (.bin .gtr t13 (kc 63)), kn 15 (.pick t12 kT t14)]
 (.cond t15 (.skip) (.exit 0)))
 (.block 1 (sr [im 16 t0, im 17 t1, ib 18 .rem t17 (kc 128), ib 19 .add t18 (kc 128), ib 20 .rem t19 (kc 128), ib 21 .add t20 (kc 128), ic 22 76 [t16, t21]]
 (.reg [im 23 t1, im 24 t1, ib 25 .rem t24 (kc 128), ib 26 .add t25 (kc 128), ib 27 .rem t26 (kc 128), ib 28 .sub t23 t27, ib 29 .quo t28 (kc 128), im 1 t29])))
def c66 : AC :=
 .seq (sr [im 4 t1, ic 5 67 [t4, (kc 32)], kn 6 (.un .not t5)]
 (.cond t6 (sr [im 7 t0, iv0 8 t7, ia 9 t8 1, ke (.st t9 kT 1)]
 (.ret)) (.skip)))
 (.seq (.block 0 (.loop c66l0))
 (.reg [im 30 t0, im 31 t1, ib 32 .add t31 (kc 128), ib 33 .rem t32 (kc 128), ic 34 76 [t30, t33]]))
def r66 : List RC := []
def c76 : AC :=
 .reg [im 4 t0, im 5 t0, iv0 6 t5, ia 7 t6 0, il 8 t7, im 9 t1, ib 10 .rem t9 (kc 256), ib 11 .add t10 (kc 256), ib 12 .rem t11 (kc 256), kn 13 (.cvi .u8 t12), kn 14 (.bs .im 5 1 [t13]), kn 15 (.app .gr 5 1 1 t8 t14), iv0 16 t4, ia 17 t16 0, ke (.st t17 t15 1)]
def r76 : List RC := []
theorem cc66 : cK Tryz.f66 (hhW 66) c66 := by unfold cK; kernel_rfl
theorem rr66 : resC Tryz.prog Tryz.f66 = some r66 := by kernel_rfl
theorem cc76 : cK Tryz.f76 (hhW 76) c76 := by unfold cK; kernel_rfl
theorem rr76 : resC Tryz.prog Tryz.f76 = some r76 := by kernel_rfl
structure QrAt (H : List ABlk) (qb : Nat) (x : AV) (bs : List UInt8) (sp : Bool) : Prop where
 c : H[qb]? = some (.cells [x, bv sp])
 r : RowB H x bs
 ne : qb ∉ rowB x
theorem QrAt.lt {H : List ABlk} {qb : Nat} {x : AV} {bs : List UInt8} {sp : Bool} (h : QrAt H qb x bs sp) : ∀ b ∈ WF qb x, b < H.length := fun b hb => by
 simp only [WF, List.mem_cons] at hb; rcases hb with rfl | hb
 ·exact (List.getElem?_eq_some_iff.1 h.c).1
 ·rcases h.r with ⟨rfl, _⟩ | ⟨c, rfl, hc⟩
  ·simp [rowB] at hb
  ·simp [rowB] at hb; subst hb; exact (List.getElem?_eq_some_iff.1 hc).1
theorem QrAt.frame {H H' : List ABlk} {qb : Nat} {x : AV} {bs : List UInt8} {sp : Bool} (h : QrAt H qb x bs sp) (hH : ∀ b ∈ WF qb x, H'[b]? = H[b]?) : QrAt H' qb x bs sp where
 c := by rw [hH qb (by simp [WF]), h.c]
 r := by
  rcases h.r with h1 | ⟨b, rfl, h2⟩
  ·exact .inl h1
  ·exact .inr ⟨b, rfl, by rw [hH b (by simp [WF, rowB]), h2]⟩
 ne := h.ne
theorem QrAt.ext {H : List ABlk} {qb : Nat} {x : AV} {bs : List UInt8} {sp : Bool} (h : QrAt H qb x bs sp) (l : List ABlk) : QrAt (H ++ l) qb x bs sp := h.frame fun b hb => List.getElem?_append_left (h.lt b hb)
def QOp (H : List ABlk) (qb : Nat) (x : AV) (bs : List UInt8) (sp : Bool) (v : AV) (H' : List ABlk) : Prop := v = .tup [] /\ ∃ x', QrAt H' qb x' bs sp /\ Chg H (WF qb x) H' (WF qb x')
theorem tmod256 (n : Int) : (n.tmod 256 + 256).tmod 256 = n % 256 := by
 rw [Int.tmod_eq_emod_of_nonneg (by have := Int.lt_tmod_of_pos n (by decide : (0 : Int) < 256); omega), Int.tmod_eq_emod]
 split <;> omega
theorem QOp.new {H : List ABlk} {qb : Nat} {l : List UInt8} {sp : Bool} (h : QrAt H qb .esl [] sp) : QOp H qb .esl l sp (.tup []) ((H ++ [ABlk.row 5 1 l.length]).set qb (.cells [.gsl H.length 1 (l.map bd), bv sp])) := by
 have hwl := (List.getElem?_eq_some_iff.1 h.c).1; refine ⟨rfl, .gsl H.length 1 (l.map bd), ⟨List.getElem?_set_self (by simp; omega), .inr ⟨H.length, rfl, by rw [getset_ne (by omega), hg0]; rfl⟩, by simp [rowB]; omega⟩, by simp, fun c hc hF => ?_, fun c hc => ?_⟩
 ·rw [getset_ne (fun e => hF (by rw [<- e]; simp [WF])), List.getElem?_append_left hc]
 ·simp only [WF, rowB, List.mem_cons, List.not_mem_nil, or_false] at hc ⊢
  rcases hc with hc | hc
  ·exact .inl hc
  ·exact .inr (by omega)
theorem QOp.old {H : List ABlk} {qb b : Nat} {bs l : List UInt8} {sp : Bool} (h : QrAt H qb (.gsl b 1 (bs.map bd)) bs sp) : QOp H qb (.gsl b 1 (bs.map bd)) (bs ++ l) sp (.tup []) ((H.set b (ABlk.row 5 1 (bs ++ l).length)).set qb (.cells [.gsl b 1 ((bs ++ l).map bd), bv sp])) := by
 have hwl := (List.getElem?_eq_some_iff.1 h.c).1; have hne : b ≠ qb := fun e => h.ne (by rw [<- e]; simp [rowB])
 have hbl := h.lt b (by simp [WF, rowB]); refine ⟨rfl, .gsl b 1 ((bs ++ l).map bd), ⟨List.getElem?_set_self (by simpa using hwl), .inr ⟨b, rfl, by rw [getset_ne (Ne.symm hne), List.getElem?_set_self hbl]⟩, by simp [rowB]; omega⟩, by simp, fun c hc hF => ?_, fun c hc => .inl hc⟩; simp only [WF, rowB, List.mem_cons, List.not_mem_nil, or_false, not_or] at hF; rw [getset_ne (Ne.symm hF.1), getset_ne (Ne.symm hF.2)]
theorem byteQ_c {H : List ABlk} {qb : Nat} {x : AV} {bs : List UInt8} {sp : Bool} (h : QrAt H qb x bs sp) (hl : bs.length <= 9000000) (n : Int) : ACalls Tryz.prog 76 [.ptr qb 0, iv n] H (QOp H qb x (bs ++ byteW n) sp) := by
 refine ACalls.into Tryz.func76 cc76 rr76 fun hcl => ?_
 have hc := h.c; have hwl := (List.getElem?_eq_some_iff.1 hc).1; have ht := tmod256 n; have hb8 : (n % 256) % 256 = ((UInt8.ofNat (n % 256).toNat).toNat : Int) := by rw [u8of (by omega) (by omega)]; omega
 have ht1 : -256 < n.tmod 256 := Int.lt_tmod_of_pos n (by decide); have ht2 : n.tmod 256 < 256 := Int.tmod_lt_of_pos n (by decide); rcases h.r with ⟨rfl, rfl⟩ | ⟨b, rfl, hb⟩
 ·have hW : ∀ l, (H ++ l)[qb]? = some (.cells [.esl, bv sp]) := fun l => hold hc l
  simp (disch := omega) only [Tryz.ntmps76, c76, r76, hc, ht, hb8, datss, elems_d, hW, go_sem, seval, reduceCtorEq]; exact Ret.keep (QOp.new (l := byteW n) h)
 ·have hne : b ≠ qb := fun e => h.ne (by rw [<- e]; simp [rowB])
  have hW : ∀ y, (H.set b y)[qb]? = some (.cells [.gsl b 1 (bs.map bd), bv sp]) := fun y => by rw [getset_ne hne, hc]
  have hlb : (bs.map bd).length = bs.length := lnm ..; simp (disch := omega) only [Tryz.ntmps76, c76, r76, hc, ht, hb8, datss, elems_d, hW, hb, hlb, flat_bd, go_sem, seval, reduceCtorEq]; have := QOp.old (l := byteW n) h; rw [show (bs ++ byteW n).length = bs.length + 1 by simp [byteW]] at this; exact Ret.keep this
theorem pow_c (k : Nat) (hk : k <= 32) (H : List ABlk) : ACalls Tryz.prog 77 [wv k] H fun v H' => v = .d (.v (.int .u64 (2 ^ k))) /\ H' = H := by
 refine ACalls.into Tryz.func77 cc77 rr77 fun hcl => ?_
 simp (disch := omega) only [Tryz.ntmps77, c77, r77, go_sem, seval, reduceCtorEq]; refine W.loopG (γ := Nat) (fun i => k - i) (fun i => [wv k, .any, .any, .d (.v (.int .u64 (2 ^ i))), wv i] ++ List.replicate 8 .any) (fun _ => H) (fun i => i <= k) 0 (Wk.slots WkL.wk) (Nat.zero_le _) (fun i hi => ?_); have hp : (2 : Int) ^ i <= 2 ^ 32 := by
  have : 2 ^ i <= 2 ^ 32 := Nat.pow_le_pow_right (by decide) (by omega); rw [show ((2 : Int) ^ i) = ((2 ^ i : Nat) : Int) by rw [Int.natCast_pow]; rfl, show ((2 : Int) ^ 32) = ((2 ^ 32 : Nat) : Int) by decide]; omega
 have hp0 : (0 : Int) < 2 ^ i := Int.pow_pos (by decide); have hp32 : (2 : Int) ^ 32 = 4294967296 := by decide
 simp (disch := omega) only [c77l0, go_sem, seval, reduceCtorEq]; refine Br.dec (fun hc => ?_) (fun hc => ?_) <;> simp (disch := omega) only [go_sem, seval, reduceCtorEq]
 ·have e : (2 : Int) ^ (i + 1) = 2 ^ i * 2 := Int.pow_succ ..
  have hm : ((i : Int) + 1) % 4294967296 = ((i + 1 : Nat) : Int) := by omega
  refine Nxt.mk (i + 1) (by omega) (Wk.slots ?_) (by omega); rw [e]
  try simp (disch := omega) only [hm, go_sem, seval, reduceCtorEq]
  exact WkL.wk
 ·have : i = k := by omega
  rw [this]; exact Ret.keep ⟨rfl, rfl⟩
theorem fitsR_c (v : Int) (H : List ABlk) : ACalls Tryz.prog 67 [iv v, iv 32] H fun v' H' => v' = bv (decide (fit32 v)) /\ H' = H := by
 obtain ⟨b, hb⟩ : ∃ b, b = decide (fit32 v) := ⟨_, rfl⟩; rw [<- hb]; refine ACalls.into Tryz.func67 cc67 rr67 fun hcl => ?_
 have hp32 : (2 : Int) ^ 32 = 4294967296 := by decide
 have hpc := pow_c 32 (by omega) H; rw [hp32] at hpc; simp (disch := omega) only [Tryz.ntmps67, c67, r67, go_sem, seval, reduceCtorEq]; refine Cont.mk hpc ?_; simp (disch := omega) only [Int.reduceDiv, go_sem, seval, reduceCtorEq]; refine Br.dec (fun h => ?_) (fun h => ?_) <;> simp (disch := omega) only [go_sem, seval, reduceCtorEq]
 ·exact Ret.keep ⟨by rw [hb]; congr 3; exact decide_eq_decide.2 (by unfold fit32; omega), rfl⟩
 ·exact Ret.keep ⟨by rw [hb, decide_eq_false (p := fit32 v) (by unfold fit32; omega)], rfl⟩
theorem tmod128 (n : Int) : (n.tmod 128 + 128).tmod 128 = n % 128 := by
 rw [Int.tmod_eq_emod_of_nonneg (by have := Int.lt_tmod_of_pos n (by decide : (0 : Int) < 128); omega), Int.tmod_eq_emod]
 split <;> omega
theorem byteW_g7 {n : Int} : byteW (n % 128) = [g7 n] := by rw [byteW, g7]; congr 2; omega
theorem byteW_h7 {n : Int} : byteW (n % 128 + 128) = [h7 n] := by rw [byteW, h7]; congr 2; omega
structure QnG where
 acc : List UInt8
 m : Int
 f : Nat
 H : List ABlk
 x : AV
theorem numQ_c {H : List ABlk} {qb : Nat} {x : AV} {bs : List UInt8} {sp : Bool} (h : QrAt H qb x bs sp) (hl : bs.length <= 8000000) (n : Int) : ACalls Tryz.prog 66 [.ptr qb 0, iv n] H (QOp H qb x (if fit32 n then bs ++ comp7 n else bs) (if fit32 n then sp else true)) := by
 refine ACalls.into Tryz.func66 cc66 rr66 fun hcl => ?_
 simp (disch := omega) only [Tryz.ntmps66, c66, r66, go_sem, seval, reduceCtorEq]; refine Cont.mk (fitsR_c n H) ?_; have hc := h.c; have hwl := (List.getElem?_eq_some_iff.1 hc).1
 by_cases hf : fit32 n
 ·rw [if_pos hf, if_pos hf]
  obtain ⟨hn1, hn2⟩ := hf; simp (disch := omega) only [decide_eq_true (p := fit32 n) ⟨hn1, hn2⟩, go_sem, seval, reduceCtorEq]; obtain ⟨S, hS⟩ : ∃ S : QnG -> List AV, ∀ g, S g = [.ptr qb 0, iv g.m] ++ List.replicate 33 .any := ⟨_, fun _ => rfl⟩; refine W.loopG (γ := QnG) (fun g => g.f + (if -64 <= g.m /\ g.m <= 63 then 0 else 1)) S (fun g => g.H) (fun g => comp7 n = g.acc ++ cmp g.f g.m /\ -64 * 128 ^ g.f <= g.m /\ g.m < 64 * 128 ^ g.f /\ g.acc.length + g.f <= 4 /\ QrAt g.H qb g.x (bs ++ g.acc) sp /\ Chg H (WF qb x) g.H (WF qb g.x)) ⟨[], n, 4, H, x⟩ (Wk.slots (WkL.tw 2 (hS _)))
   ⟨rfl, by show -64 * 128 ^ 4 <= n; simp only [Int.reducePow]; omega, by show n < 64 * 128 ^ 4; simp only [Int.reducePow]; omega, by simp, by simpa using h, .rfl'⟩ (fun g hg => ?_)
  obtain ⟨q1, q2, q3, q4, q5, q6⟩ := hg; have hp4 : (128 : Int) ^ g.f <= 128 ^ 4 := by
   rcases (by omega : g.f = 0 \/ g.f = 1 \/ g.f = 2 \/ g.f = 3 \/ g.f = 4) with e | e | e | e | e <;> rw [e] <;> decide
  have hp5 : (128 : Int) ^ 4 = 268435456 := by decide
  have ht := tmod128 g.m; have hlq : (bs ++ g.acc).length <= 9000000 := by rw [List.length_append]; omega
  have ht1 : -128 < g.m.tmod 128 := Int.lt_tmod_of_pos g.m (by decide); have ht2 : g.m.tmod 128 < 128 := Int.tmod_lt_of_pos g.m (by decide); have hm1 : -17179869184 <= g.m /\ g.m <= 17179869184 := by omega
  have hmm : (g.m % 128 + 128) % 128 = g.m % 128 := by omega
  by_cases hr7 : -64 <= g.m /\ g.m <= 63
  ·have ec : cmp g.f g.m = [g7 g.m] := by
    cases hf : g.f with
    | zero => rfl
    | succ f => rw [cmp, if_pos hr7]
   rw [ec] at q1; have hbq := byteQ_c q5 hlq (g.m % 128); rw [byteW_g7, List.append_assoc, <- q1] at hbq; have hm2 : (g.m + 128) % 128 = g.m % 128 := by omega
   obtain ⟨r1, r2⟩ := hr7; simp (disch := omega) only [hS, c66l0, hm2, go_sem, seval, reduceCtorEq]; refine Cont.rel hbq ?_; rintro v H' ⟨rfl, x', h1', h2'⟩; simp (disch := omega) only [go_sem, seval, reduceCtorEq]; exact Ret.keep ⟨rfl, x', h1', q6.trans h2'⟩
  ·obtain ⟨f', hf⟩ : ∃ f', g.f = f' + 1 := by
    cases hf : g.f with
    | zero => rw [hf] at q2 q3; simp at q2 q3; exact absurd ⟨q2, by omega⟩ hr7
    | succ f => exact ⟨f, rfl⟩
   rw [hf] at q1 q2 q3 q4; rw [cmp, if_neg hr7] at q1; have hp : (0 : Int) < 128 ^ f' := Int.pow_pos (by decide); rw [Int.pow_succ] at q2 q3; have hbq := byteQ_c q5 hlq (g.m % 128 + 128); rw [byteW_h7, List.append_assoc] at hbq; have hdiv : (g.m - g.m % 128).tdiv 128 = g.m / 128 := by
    rw [Int.tdiv_eq_ediv_of_dvd (by omega)]; omega
   have step : ∀ (G : Prop), (g.m < -64 -> G) -> (¬ g.m < -64 -> g.m > 63 -> G) -> G := fun G a b => by
    by_cases h : g.m < -64
    ·exact a h
    ·exact b h (by omega)
   refine step _ (fun r1 => ?_) (fun r1 r2 => ?_) <;> (
    simp (disch := omega) only [hS, c66l0, ht, hmm, go_sem, seval, reduceCtorEq]; refine Cont.rel hbq ?_; rintro v H' ⟨rfl, x', h1', h2'⟩; simp (disch := omega) only [ht, hmm, hdiv, go_sem, seval, reduceCtorEq]; exact Nxt.mk ⟨g.acc ++ [h7 g.m], g.m / 128, f', H', x'⟩ (by show f' + _ < _; simp only [hf]; (repeat' split) <;> omega) (Wk.slots (WkL.tw 2 (hS _))) ⟨by rw [q1]; simp, by show -64 * 128 ^ f' <= g.m / 128; omega, by show g.m / 128 < 64 * 128 ^ f'; omega, by show (g.acc ++ [h7 g.m]).length + f' <= 4; rw [List.length_append]; show g.acc.length + 1 + f' <= 4; omega, h1', q6.trans h2'⟩)
 ·rw [if_neg hf, if_neg hf]
  simp (disch := omega) only [decide_eq_false hf, hc, go_sem, seval, reduceCtorEq]; refine Ret.keep ⟨rfl, x, ⟨List.getElem?_set_self hwl, ?_, h.ne⟩, by simp, fun b hb hF => getset_ne (fun e => hF (by rw [<- e]; simp [WF])), fun b hb => .inl hb⟩; rcases h.r with h1 | ⟨b, rfl, h2⟩
  ·exact .inl h1
  ·exact .inr ⟨b, rfl, by rw [getset_ne (fun e => h.ne (by rw [e]; simp [rowB])), h2]⟩
end Go.Proofs.YthifjndenhjobaaGreat.Rid
