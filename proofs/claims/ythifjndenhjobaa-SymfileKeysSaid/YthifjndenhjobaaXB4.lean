/- The writer. -/
import Derived.Test.YthifjndenhjobaaXB2
namespace Go.Proofs.Ythifjndenhjobaa.Rid
set_option linter.unusedSimpArgs false
set_option linter.unusedVariables false
set_option maxRecDepth 20000
set_option maxHeartbeats 2000000
open Go.RowKit

def c52 : AC :=
 .seq (.reg [kn 0 (.mv (.c .nilp))])
 (.seq (.reg [kn 1 (.bd [.esl, (.d (.v (.bool false))), (.d (.v (.bool false)))] []), kn 2 (.bx (.t 1)), kn 0 (.mv (.t 2))])
 (.ret))
def r52 : List RC := [.t 0]

def c53 : AC :=
 .seq (.seq (.reg [kn 4 (.mv (.t 1)), kn 5 (.len true (.t 4)), kn 6 (.bin .gtr (.t 5) (kc 64)), kn 7 (.mv (.t 6)), ko 8 7 (.mv (.t 1)), ko 9 7 (.call 89 [(.t 8), (.c (.d (.v (.int .u8 0))))]), ko 10 7 (.bin .geq (.t 9) (kc 0)), kn 11 (.pick (.t 7) (.c (.d (.v (.bool true)))) (.t 10))])
 (.cond (.t 11) (.seq (.reg [kn 12 (.mv (.t 0)), kn 13 (.call 90 [(.t 12)])])
 (.ret)) (.skip)))
 (.reg [kn 14 (.mv (.t 0)), kn 15 (.mv (.t 1)), kn 16 (.bin .add (.t 15) (.c (.d (.v (.string ⟨#[0]⟩))))), kn 17 (.call 91 [(.t 14), (.t 16)])])
def r53 : List RC := []

def c55 : AC :=
 .seq (.seq (.reg [kn 4 (.mv (.t 1)), kn 5 (.call 92 [(.t 4), (kc 32)]), kn 6 (.un .not (.t 5))])
 (.cond (.t 6) (.seq (.reg [kn 7 (.mv (.t 0)), kn 8 (.call 90 [(.t 7)])])
 (.ret)) (.skip)))
 (.reg [kn 9 (.mv (.t 0)), kn 10 (.mv (.t 1)), kn 11 (.call 93 [(.t 10)]), kn 12 (.call 91 [(.t 9), (.t 11)])])
def r55 : List RC := []

def c57 : AC :=
 .reg [kn 4 (.mv (.t 0)), kn 5 (.mv (.t 1)), kn 6 (.cvi .u8 (.t 5)), kn 7 (.bs .im 5 1 [(.t 6)]), kn 8 (.b2s (.t 7)), kn 9 (.call 91 [(.t 4), (.t 8)])]
def r57 : List RC := []

def c59 : AC :=
 .seq (.reg [kn 2 (.mv (.c (.d (.v (.string ⟨#[]⟩))))), kn 3 (.mv (kc 0))])
 (.seq (.seq (.reg [kn 4 (.mv (.t 0)), kn 5 (.eqp false (.t 4) (.c .nilp)), kn 6 (.mv (.t 5)), ko 7 6 (.mv (.t 0)), ko 8 6 (.nc (.t 7)), ko 9 6 (.fa (.t 8) 1), ko 10 6 (.ld (.t 9) 1 false), kn 11 (.pick (.t 6) (.c (.d (.v (.bool true)))) (.t 10))])
 (.cond (.t 11) (.seq (.reg [kn 2 (.mv (.c (.d (.v (.string ⟨#[]⟩))))), kn 3 (.mv (kc 1))])
 (.ret)) (.skip)))
 (.seq (.seq (.reg [kn 12 (.mv (.t 0)), kn 13 (.nc (.t 12)), kn 14 (.fa (.t 13) 2), kn 15 (.ld (.t 14) 1 false)])
 (.cond (.t 15) (.seq (.reg [kn 2 (.mv (.c (.d (.v (.string ⟨#[]⟩))))), kn 3 (.mv (kc 2))])
 (.ret)) (.skip)))
 (.seq (.reg [kn 16 (.mv (.t 0)), kn 17 (.nc (.t 16)), kn 18 (.fa (.t 17) 0), kn 19 (.ld (.t 18) 1 false), kn 20 (.b2s (.t 19)), kn 2 (.mv (.t 20)), kn 3 (.mv (kc 0))])
 (.ret))))
def r59 : List RC := [.t 2, .t 3]

def c90 : AC :=
 .seq (.reg [kn 2 (.mv (.t 0)), kn 3 (.eqp true (.t 2) (.c .nilp))])
 (.cond (.t 3) (.reg [kn 4 (.mv (.t 0)), kn 5 (.nc (.t 4)), kn 6 (.fa (.t 5) 1), ke (.st (.t 6) (.c (.d (.v (.bool true)))) 1)]) (.skip))
def r90 : List RC := []

def c91 : AC :=
 .seq (.seq (.reg [kn 4 (.mv (.t 0)), kn 5 (.eqp false (.t 4) (.c .nilp)), kn 6 (.mv (.t 5)), ko 7 6 (.mv (.t 0)), ko 8 6 (.nc (.t 7)), ko 9 6 (.fa (.t 8) 2), ko 10 6 (.ld (.t 9) 1 false), kn 11 (.pick (.t 6) (.c (.d (.v (.bool true)))) (.t 10))])
 (.cond (.t 11) (.ret) (.skip)))
 (.seq (.reg [kn 12 (.mv (.t 0)), kn 13 (.mv (.t 0)), kn 14 (.nc (.t 13)), kn 15 (.fa (.t 14) 0), kn 16 (.ld (.t 15) 1 false), kn 17 (.mv (.t 1)), kn 18 (.app .gr 5 1 1 (.t 16) (.t 17)), kn 19 (.nc (.t 12)), kn 20 (.fa (.t 19) 0), ke (.st (.t 20) (.t 18) 1)])
 (.reg [kn 21 (.mv (.t 0)), kn 22 (.mv (.t 0)), kn 23 (.nc (.t 22)), kn 24 (.fa (.t 23) 0), kn 25 (.ld (.t 24) 1 false), kn 26 (.len false (.t 25)), kn 27 (.bin .gtr (.t 26) (kc 131072)), kn 28 (.nc (.t 21)), kn 29 (.fa (.t 28) 2), ke (.st (.t 29) (.t 27) 1)]))
def r91 : List RC := []

theorem cc52 : Try.f52.body.bind (comp Try.prog (hhW 52)) = some c52 := by kernel_rfl
theorem rr52 : resC Try.prog Try.f52 = some r52 := by kernel_rfl
theorem cc53 : Try.f53.body.bind (comp Try.prog (hhW 53)) = some c53 := by kernel_rfl
theorem rr53 : resC Try.prog Try.f53 = some r53 := by kernel_rfl
theorem cc55 : Try.f55.body.bind (comp Try.prog (hhW 55)) = some c55 := by kernel_rfl
theorem rr55 : resC Try.prog Try.f55 = some r55 := by kernel_rfl
theorem cc57 : Try.f57.body.bind (comp Try.prog (hhW 57)) = some c57 := by kernel_rfl
theorem rr57 : resC Try.prog Try.f57 = some r57 := by kernel_rfl
theorem cc59 : Try.f59.body.bind (comp Try.prog (hhW 59)) = some c59 := by kernel_rfl
theorem rr59 : resC Try.prog Try.f59 = some r59 := by kernel_rfl
theorem cc90 : Try.f90.body.bind (comp Try.prog (hhW 90)) = some c90 := by kernel_rfl
theorem rr90 : resC Try.prog Try.f90 = some r90 := by kernel_rfl
theorem cc91 : Try.f91.body.bind (comp Try.prog (hhW 91)) = some c91 := by kernel_rfl
theorem rr91 : resC Try.prog Try.f91 = some r91 := by kernel_rfl
def RowB (H : List ABlk) (x : AV) (bs : List UInt8) : Prop := (x = .esl ∧ bs = []) ∨ ∃ b, x = .gsl b 1 (bs.map bd) ∧ H[b]? = some (.row 5 1 bs.length)
def rowB : AV → List Nat
 | .gsl b _ _ => [b]
 | _ => []
structure Wr where
 bs : List UInt8
 sp : Bool
 tl : Bool
structure WrAt (H : List ABlk) (wb : Nat) (x : AV) (w : Wr) : Prop where
 c : H[wb]? = some (.cells [x, bv w.sp, bv w.tl])
 r : RowB H x w.bs
 ne : wb ∉ rowB x
 ok : w.tl = decide (131072 < w.bs.length)
 len : w.bs.length ≤ 500000
def WF (wb : Nat) (x : AV) : List Nat := wb :: rowB x
structure Chg (H : List ABlk) (F : List Nat) (H' : List ABlk) (F' : List Nat) : Prop where
 len : H.length ≤ H'.length
 out : ∀ b, b < H.length → b ∉ F → H'[b]? = H[b]?
 sub : ∀ b ∈ F', b ∈ F ∨ H.length ≤ b
theorem Chg.rfl' {H : List ABlk} {F : List Nat} : Chg H F H F := ⟨Nat.le_refl _, fun _ _ _ => rfl, fun _ h => .inl h⟩
theorem Chg.trans {H H' H'' : List ABlk} {F F' F'' : List Nat} (h : Chg H F H' F') (k : Chg H' F' H'' F'') : Chg H F H'' F'' :=
 ⟨Nat.le_trans h.len k.len, fun b hb hF => by
   rw [k.out b (Nat.lt_of_lt_of_le hb h.len) (fun hf => by rcases h.sub b hf with h1 | h1; exact hF h1; omega), h.out b hb hF], fun b hb => by
   rcases k.sub b hb with h1 | h1
   ·exact h.sub b h1
   ·exact .inr (Nat.le_trans h.len h1)⟩
theorem pre_of {G H : List ABlk} (hl : G.length ≤ H.length) (h : ∀ b, b < G.length → H[b]? = G[b]?) : G <+: H := by
 refine ⟨H.drop G.length, ?_⟩
 apply List.ext_getElem?
 intro i
 by_cases hi : i < G.length
 ·rw [List.getElem?_append_left hi, h i hi]
 ·rw [List.getElem?_append_right (by omega), List.getElem?_drop]
  congr 1; omega
theorem WrAt.lt {H : List ABlk} {wb : Nat} {x : AV} {w : Wr} (h : WrAt H wb x w) : ∀ b ∈ WF wb x, b < H.length := fun b hb => by
 simp only [WF, List.mem_cons] at hb
 rcases hb with rfl | hb
 ·exact (List.getElem?_eq_some_iff.1 h.c).1
 ·rcases h.r with ⟨rfl, _⟩ | ⟨c, rfl, hc⟩
  ·simp [rowB] at hb
  ·simp [rowB] at hb; subst hb; exact (List.getElem?_eq_some_iff.1 hc).1
theorem WrAt.frame {H H' : List ABlk} {wb : Nat} {x : AV} {w : Wr} (h : WrAt H wb x w) (hH : ∀ b ∈ WF wb x, H'[b]? = H[b]?) : WrAt H' wb x w where
 c := by rw [hH wb (by simp [WF]), h.c]
 r := by
  rcases h.r with h1 | ⟨b, rfl, h2⟩
  ·exact .inl h1
  ·exact .inr ⟨b, rfl, by rw [hH b (by simp [WF, rowB]), h2]⟩
 ne := h.ne
 ok := h.ok
 len := h.len
def putW (w : Wr) (l : List UInt8) : Wr := if w.tl = true then w else ⟨w.bs ++ l, w.sp, decide (131072 < (w.bs ++ l).length)⟩
theorem write_c (H : List ABlk) : ACalls Try.prog 52 [] H fun v H' => v = .ptr H.length 0 ∧ H' = H ++ [.cells [.esl, bv false, bv false]] := by
 refine ACalls.into Try.func52 cc52 rr52 fun hcl => ?_
 simp (maxSteps := 2000000) (disch := omega) only [Try.ntmps52, c52, r52, go_sem, seval, reduceCtorEq]
 exact Ret.keep ⟨rfl, rfl⟩
theorem WrAt.new (H : List ABlk) : WrAt (H ++ [.cells [.esl, bv false, bv false]]) H.length .esl ⟨[], false, false⟩ :=
 ⟨by rw [hg0]; rfl, .inl ⟨rfl, rfl⟩, by simp [rowB], by simp, by simp⟩
theorem str_d (s : ByteArray) : (s.data.toList.map fun b => [AV.d (.v (.int .u8 b.toNat))]) = (s.data.toList.map bd).map (·.map AV.d) := by simp
theorem len_data (s : ByteArray) : s.data.toList.length = s.size := by rw [Array.length_toList]; rfl
def WOp (H : List ABlk) (wb : Nat) (x : AV) (w' : Wr) (v : AV) (H' : List ABlk) : Prop := v = .tup [] ∧ ∃ x', WrAt H' wb x' w' ∧ Chg H (WF wb x) H' (WF wb x')
theorem put_c {H : List ABlk} {wb : Nat} {x : AV} {w : Wr} (h : WrAt H wb x w) (s : ByteArray) (hs : s.size ≤ 300000) : ACalls Try.prog 91 [.ptr wb 0, sv s] H (WOp H wb x (putW w s.data.toList)) := by
 refine ACalls.into Try.func91 cc91 rr91 fun hcl => ?_
 have hw := h.c
 have hsz := len_data s
 obtain ⟨bs, sp, tl⟩ := w
 simp only at hw
 cases tl with
 | true =>
  simp (maxSteps := 2000000) (disch := omega) only [Try.ntmps91, c91, r91, hw, go_sem, seval, reduceCtorEq]
  exact Ret.keep ⟨rfl, x, by rw [putW, if_pos rfl]; exact h, .rfl'⟩
 | false =>
  have hlen : bs.length ≤ 131072 := by
   have := h.ok
   simp only at this
   have := of_decide_eq_false this.symm
   omega
  have hp : putW ⟨bs, sp, false⟩ s.data.toList = ⟨bs ++ s.data.toList, sp, decide (131072 < (bs ++ s.data.toList).length)⟩ := by rw [putW, if_neg (by simp)]
  have hl : (bs ++ s.data.toList).length = bs.length + s.size := by rw [List.length_append, hsz]
  have hda : datss ((s.data.toList.map bd).map (·.map AV.d)) = some (s.data.toList.map bd) := datss_map_d _
  have hlm : (s.data.toList.map bd).length = s.size := by rw [List.length_map, hsz]
  have hwl := (List.getElem?_eq_some_iff.1 hw).1
  have hdec : decide (((bs.length : Int) + (s.size : Int)) > 131072) = decide (131072 < (bs ++ s.data.toList).length) := decide_eq_decide.2 (by rw [hl]; omega)
  rw [hp]
  rcases h.r with ⟨rfl, hb0⟩ | ⟨b, rfl, hb⟩
  ·simp only at hb0
   subst hb0
   have hW : ∀ l, (H ++ l)[wb]? = some (.cells [.esl, bv sp, bv false]) := fun l => hold hw l
   have hS : ∀ l y, ((H ++ l).set wb y)[wb]? = some y := fun l y => List.getElem?_set_self (by simp; omega)
   simp (maxSteps := 2000000) (disch := omega) only [Try.ntmps91, c91, r91, hw, elems_s, str_d, hda, hlm, hW, hS, List.set_set, go_sem, seval, reduceCtorEq]
   have hd1 : decide ((131072 : Int) < (s.size : Int)) = decide (131072 < s.data.toList.length) := decide_eq_decide.2 (by omega)
   rw [hd1]
   refine Ret.keep ⟨rfl, .gsl H.length 1 (s.data.toList.map bd), ⟨hS _ _, .inr ⟨H.length, rfl, ?_⟩, ?_, rfl, ?_⟩, ?_, fun c hc hF => ?_, fun c hc => ?_⟩
   ·rw [getset_ne (by omega), hg0]; simp [hsz]
   ·simp [rowB]; omega
   ·show s.data.toList.length ≤ 500000; omega
   ·simp
   ·rw [getset_ne (fun e => hF (by rw [← e]; simp [WF])), List.getElem?_append_left hc]
   ·simp only [WF, rowB, List.mem_cons, List.not_mem_nil, or_false] at hc ⊢
    rcases hc with hc | hc
    ·exact .inl hc
    ·exact .inr (by omega)
  ·have hne : b ≠ wb := fun e => h.ne (by rw [← e]; simp [rowB])
   simp only at hb
   have hW : ∀ y, (H.set b y)[wb]? = some (.cells [.gsl b 1 (bs.map bd), bv sp, bv false]) := fun y => by rw [getset_ne hne, hw]
   have hS : ∀ y z, ((H.set b y).set wb z)[wb]? = some z := fun y z => List.getElem?_set_self (by simp; omega)
   have hlb : (bs.map bd).length = bs.length := List.length_map ..
   have h1 : (bs.length + s.size) * 1 ≤ 140737488355328 := by omega
   simp (maxSteps := 2000000) (disch := omega) only [Try.ntmps91, c91, r91, hw, elems_s, str_d, hda, hlm, hlb, hb, hW, hS, List.set_set, go_sem, seval, reduceCtorEq]
   have hd1 : decide ((131072 : Int) < ((bs.length + s.size : Nat) : Int)) = decide (131072 < bs.length + s.data.toList.length) := decide_eq_decide.2 (by omega)
   rw [hd1, ← List.map_append]
   have hbl := (List.getElem?_eq_some_iff.1 hb).1
   refine Ret.keep ⟨rfl, .gsl b 1 ((bs ++ s.data.toList).map bd), ⟨hS _ _, .inr ⟨b, rfl, ?_⟩, ?_, ?_, ?_⟩, ?_, fun c hc hF => ?_, fun c hc => .inl hc⟩
   ·rw [getset_ne (Ne.symm hne), List.getElem?_set_self hbl]; simp [hsz]
   ·simp [rowB]; omega
   ·show decide (131072 < bs.length + s.data.toList.length) = decide (131072 < (bs ++ s.data.toList).length)
    rw [List.length_append]
   ·show (bs ++ s.data.toList).length ≤ 500000; rw [hl]; omega
   ·simp
   ·simp only [WF, rowB, List.mem_cons, List.not_mem_nil, or_false, not_or] at hF
    rw [getset_ne (Ne.symm hF.1), getset_ne (Ne.symm hF.2)]
theorem spoil_c {H : List ABlk} {wb : Nat} {x : AV} {w : Wr} (h : WrAt H wb x w) : ACalls Try.prog 90 [.ptr wb 0] H (WOp H wb x ⟨w.bs, true, w.tl⟩) := by
 refine ACalls.into Try.func90 cc90 rr90 fun hcl => ?_
 have hwl := (List.getElem?_eq_some_iff.1 h.c).1
 simp (maxSteps := 2000000) (disch := omega) only [Try.ntmps90, c90, r90, h.c, go_sem, seval, reduceCtorEq]
 refine Ret.keep ⟨rfl, x, ⟨List.getElem?_set_self hwl, ?_, h.ne, h.ok, h.len⟩, by simp, fun b hb hF => getset_ne (fun e => hF (by rw [← e]; simp [WF])), fun b hb => .inl hb⟩
 rcases h.r with h1 | ⟨b, rfl, h2⟩
 ·exact .inl h1
 ·exact .inr ⟨b, rfl, by rw [getset_ne (fun e => h.ne (by rw [e]; simp [rowB])), h2]⟩
def byteW (n : Int) : List UInt8 := [UInt8.ofNat (n % 256).toNat]
theorem u8of {n : Int} (h0 : 0 ≤ n) (h1 : n < 256) : ((UInt8.ofNat n.toNat).toNat : Int) = n := by rw [u8n (by omega)]; omega
theorem byteW_c {H : List ABlk} {wb : Nat} {x : AV} {w : Wr} (h : WrAt H wb x w) (n : Int) : ACalls Try.prog 57 [.ptr wb 0, iv n] H (WOp H wb x (putW w (byteW n))) := by
 refine ACalls.into Try.func57 cc57 rr57 fun hcl => ?_
 simp (maxSteps := 2000000) (disch := omega) only [Try.ntmps57, c57, r57, bytesOf, go_sem, seval, reduceCtorEq]
 refine Cont.rel (put_c h _ (by show (1 : Nat) ≤ 300000; omega)) ?_
 rintro v H' ⟨rfl, x', h1, h2⟩
 simp (maxSteps := 2000000) (disch := omega) only [go_sem, seval, reduceCtorEq]
 exact Ret.keep ⟨rfl, x', h1, h2⟩
def numW (w : Wr) (n : Int) : Wr := if fit32 n then putW w (comp7 n) else ⟨w.bs, true, w.tl⟩
theorem numW_c {H : List ABlk} {wb : Nat} {x : AV} {w : Wr} (h : WrAt H wb x w) (n : Int) : ACalls Try.prog 55 [.ptr wb 0, iv n] H (WOp H wb x (numW w n)) := by
 refine ACalls.into Try.func55 cc55 rr55 fun hcl => ?_
 simp (maxSteps := 2000000) (disch := omega) only [Try.ntmps55, c55, r55, go_sem, seval, reduceCtorEq]
 refine Cont.mk (fits32_c n H) ?_
 by_cases hf : fit32 n
 ·simp (maxSteps := 2000000) (disch := omega) only [decide_eq_true hf, go_sem, seval, reduceCtorEq]
  refine Cont.mk (compact_c n hf H) ?_
  simp (maxSteps := 2000000) (disch := omega) only [go_sem, seval, reduceCtorEq]
  refine Cont.rel (put_c h _ (by have := comp7_le n; show (comp7 n).toArray.size ≤ 300000; simp; omega)) ?_
  rintro v H' ⟨rfl, x', h1, h2⟩
  simp (maxSteps := 2000000) (disch := omega) only [go_sem, seval, reduceCtorEq]
  exact Ret.keep ⟨rfl, x', by rw [numW, if_pos hf]; exact h1, h2⟩
 ·simp (maxSteps := 2000000) (disch := omega) only [decide_eq_false hf, go_sem, seval, reduceCtorEq]
  refine Cont.rel (spoil_c h) ?_
  rintro v H' ⟨rfl, x', h1, h2⟩
  simp (maxSteps := 2000000) (disch := omega) only [go_sem, seval, reduceCtorEq]
  exact Ret.keep ⟨rfl, x', by rw [numW, if_neg hf]; exact h1, h2⟩
theorem idxB_pos {l : List UInt8} {c : UInt8} : 0 ≤ idxB l c ↔ c ∈ l := by
 induction l with
 | nil => simp [idxB]
 | cons b l ih =>
  unfold idxB
  split
  ·rename_i h; simp at h; simp [h]
  ·rename_i h
   have hne : c ≠ b := fun e => h (by simp [e])
   split
   ·rename_i h2
    have hn : c ∉ l := fun e => by have := ih.2 e; simp at h2; omega
    simp [hne, hn]
   ·rename_i h2
    simp at h2
    have : -1 ≤ idxB l c := by
     clear ih h2 h hne
     induction l with
     | nil => simp [idxB]
     | cons b l ih =>
      unfold idxB
      split
      ·omega
      ·split
       ·omega
       ·omega
    simp only [List.mem_cons, hne, false_or, ← ih]
    omega
def textOk (s : ByteArray) : Prop := s.size ≤ 64 ∧ (0 : UInt8) ∉ s.data.toList
open Classical in
noncomputable def textW (w : Wr) (s : ByteArray) : Wr := if textOk s then putW w (s.data.toList ++ [0]) else ⟨w.bs, true, w.tl⟩
theorem app_data (s t : ByteArray) : (s ++ t).data.toList = s.data.toList ++ t.data.toList := ByteArray.toList_data_append
theorem app_size (s t : ByteArray) : (s ++ t).size = s.size + t.size := ByteArray.size_append
theorem textW_c {H : List ABlk} {wb : Nat} {x : AV} {w : Wr} (h : WrAt H wb x w) (s : ByteArray) : ACalls Try.prog 53 [.ptr wb 0, sv s] H (WOp H wb x (textW w s)) := by
 refine ACalls.into Try.func53 cc53 rr53 fun hcl => ?_
 by_cases h1 : 64 < s.size
 ·simp (maxSteps := 2000000) (disch := omega) only [Try.ntmps53, c53, r53, go_sem, seval, reduceCtorEq]
  refine Cont.rel (spoil_c h) ?_
  rintro v H' ⟨rfl, x', h1', h2⟩
  simp (maxSteps := 2000000) (disch := omega) only [go_sem, seval, reduceCtorEq]
  exact Ret.keep ⟨rfl, x', by rw [textW, if_neg (fun e => by have := e.1; omega)]; exact h1', h2⟩
 simp (maxSteps := 2000000) (disch := omega) only [Try.ntmps53, c53, r53, go_sem, seval, reduceCtorEq]
 refine Cont.mk (indexB_c s 0 H) ?_
 have e0 : UInt8.ofNat (0 : Int).toNat = 0 := rfl
 rw [e0]
 by_cases h2 : 0 ≤ idxB s.data.toList 0
 ·simp (maxSteps := 2000000) (disch := omega) only [go_sem, seval, reduceCtorEq]
  refine Cont.rel (spoil_c h) ?_
  rintro v H' ⟨rfl, x', h1', h2'⟩
  simp (maxSteps := 2000000) (disch := omega) only [go_sem, seval, reduceCtorEq]
  exact Ret.keep ⟨rfl, x', by rw [textW, if_neg (fun e => e.2 (idxB_pos.1 h2))]; exact h1', h2'⟩
 ·have hz : (⟨#[0]⟩ : ByteArray).size = 1 := rfl
  have hlt : ¬ ((s.size : Int) + 1 > IntKind.i64.max) := by
   have : IntKind.i64.max = 9223372036854775807 := by decide
   omega
  simp (maxSteps := 2000000) (disch := omega) only [hz, hlt, go_sem, seval, reduceCtorEq]
  refine Cont.rel (put_c h (s ++ ⟨#[0]⟩) (by rw [app_size, hz]; omega)) ?_
  rintro v H' ⟨rfl, x', h1', h2'⟩
  simp (maxSteps := 2000000) (disch := omega) only [go_sem, seval, reduceCtorEq]
  refine Ret.keep ⟨rfl, x', ?_, h2'⟩
  rw [textW, if_pos ⟨by omega, fun e => h2 (idxB_pos.2 e)⟩]
  rw [app_data] at h1'
  exact h1'
theorem bytesW_c {H : List ABlk} {wb : Nat} {x : AV} {w : Wr} (h : WrAt H wb x w) : ACalls Try.prog 59 [.ptr wb 0] H fun v H' => v = .tup (if w.sp = true then [sv nl, iv 1] else if w.tl = true then [sv nl, iv 2] else [sv ⟨w.bs.toArray⟩, iv 0]) ∧ H' = H := by
 refine ACalls.into Try.func59 cc59 rr59 fun hcl => ?_
 have hw := h.c
 cases e1 : w.sp with
 | true =>
  rw [e1] at hw
  simp (maxSteps := 2000000) (disch := omega) only [Try.ntmps59, c59, r59, hw, go_sem, seval, reduceCtorEq]
  exact Ret.keep ⟨rfl, rfl⟩
 | false =>
  rw [e1] at hw
  cases e2 : w.tl with
  | true =>
   rw [e2] at hw
   simp (maxSteps := 2000000) (disch := omega) only [Try.ntmps59, c59, r59, hw, go_sem, seval, reduceCtorEq]
   exact Ret.keep ⟨rfl, rfl⟩
  | false =>
   rw [e2] at hw
   rcases h.r with ⟨rfl, hb0⟩ | ⟨b, rfl, hb⟩
   ·simp (maxSteps := 2000000) (disch := omega) only [Try.ntmps59, c59, r59, hw, elems_e, bytesOf, go_sem, seval, reduceCtorEq]
    exact Ret.keep ⟨by rw [hb0], rfl⟩
   ·simp (maxSteps := 2000000) (disch := omega) only [Try.ntmps59, c59, r59, hw, elems_g, bytesOf_bd, go_sem, seval, reduceCtorEq]
    exact Ret.keep ⟨rfl, rfl⟩
end Go.Proofs.Ythifjndenhjobaa.Rid

/- The writer's words. -/
namespace Go.Proofs.Ythifjndenhjobaa.Rid
set_option linter.unusedSimpArgs false
set_option linter.unusedVariables false
set_option maxRecDepth 20000
set_option maxHeartbeats 2000000
open Go.RowKit

def c54l0 : AC :=
 .seq (.reg [kn 7 (.bin .lss (.t 6) (kc 4))])
 (.seq (.cond (.t 7) (.skip) (.exit 0))
 (.seq (.block 1 (.seq (.reg [kn 8 (.mv (.t 6)), kn 5 (.mv (.t 8))])
 (.reg [kn 9 (.mv (.t 5)), kn 10 (.mv (.t 1)), kn 11 (.mv (.t 5)), kn 12 (.bin .mul (kc 8) (.t 11)), kn 13 (.bin .shr (.t 10) (.t 12)), kn 14 (.cvi .u8 (.t 13)), kn 15 (.iar (.t 4) (.t 9) 4 1), ke (.st (.t 15) (.t 14) 1)])))
 (.reg [kn 16 (.bin .add (.t 6) (kc 1)), kn 6 (.mv (.t 16))])))

def c54 : AC :=
 .seq (.reg [kn 4 (.al [(.d (.v (.int .u8 0))), (.d (.v (.int .u8 0))), (.d (.v (.int .u8 0))), (.d (.v (.int .u8 0)))])])
 (.seq (.seq (.reg [kn 6 (.mv (kc 0))])
 (.block 0 (.loop c54l0)))
 (.reg [kn 17 (.mv (.t 0)), kn 18 (.sla (.t 4) none none 4 1), kn 19 (.b2s (.t 18)), kn 20 (.call 91 [(.t 17), (.t 19)])]))
def r54 : List RC := []

theorem cc54 : Try.f54.body.bind (comp Try.prog (hhW 54)) = some c54 := by kernel_rfl
theorem rr54 : resC Try.prog Try.f54 = some r54 := by kernel_rfl
def wB (x : Int) (j : Nat) : UInt8 := UInt8.ofNat (x / 256 ^ j % 256).toNat
def wordB (x : Int) : List UInt8 := [wB x 0, wB x 1, wB x 2, wB x 3]
theorem wBn (x : Int) (j : Nat) : ((wB x j).toNat : Int) = x / 256 ^ j % 256 := by rw [wB, u8of (by omega) (by omega)]
def wcs (x : Int) (i : Nat) : List AV := (List.range 4).map fun j => if j < i then cv (wB x j).toNat else cv 0
theorem WrAt.ext {H : List ABlk} {wb : Nat} {x : AV} {w : Wr} (h : WrAt H wb x w) (l : List ABlk) : WrAt (H ++ l) wb x w := h.frame fun b hb => List.getElem?_append_left (h.lt b hb)
theorem Chg.app {H : List ABlk} {F : List Nat} (l : List ABlk) : Chg H F (H ++ l) F := ⟨by simp, fun b hb _ => List.getElem?_append_left hb, fun _ h => .inl h⟩
theorem wordW_c {H : List ABlk} {wb : Nat} {x : AV} {w : Wr} (h : WrAt H wb x w) (n : Int) (h0 : 0 ≤ n) (h1 : n < 4294967296) : ACalls Try.prog 54 [.ptr wb 0, wv n] H (WOp H wb x (putW w (wordB n))) := by
 refine ACalls.into Try.func54 cc54 rr54 fun hcl => ?_
 simp (maxSteps := 2000000) (disch := omega) only [Try.ntmps54, c54, r54, go_sem, seval, reduceCtorEq]
 obtain ⟨S, hS⟩ : ∃ S : Nat → List AV, ∀ i, S i = [.ptr wb 0, wv n, .any, .any, .ptr H.length 0, .any, iv i] ++ List.replicate 14 .any := ⟨_, fun _ => rfl⟩
 have hB : ∀ y, (H ++ [y])[H.length]? = some y := fun y => by rw [hg0]; rfl
 have hset : ∀ x y : ABlk, (H ++ [x]).set H.length y = H ++ [y] := fun x y => by rw [hs0]; rfl
 have b0 := wBn n 0
 have b1 := wBn n 1
 have b2 := wBn n 2
 have b3 := wBn n 3
 simp only [Int.reducePow] at b0 b1 b2 b3
 refine W.loopG (γ := Nat) (fun i => 4 - i) S (fun i => H ++ [.cells (wcs n i)]) (fun i => i ≤ 4) 0 ?_ (by omega) (fun i hi => ?_)
 ·exact Wk.slots (by rw [hS]; exact WkL.tail 7 _ rfl (by simp only [List.take_succ_cons, List.take_zero]; repeat' first | exact WkL.nil | refine WkL.cons (Wk1.rfl _) ?_ | refine WkL.cons Wk1.esl ?_ | refine WkL.cons (Wk1.gsl _ _ _) ?_ | refine WkL.cons (Wk1.any _) ?_))
 have hwl : (wcs n i).length = 4 := rfl
 by_cases hi4 : i < 4
 ·have e8 : (8 * (i : Int)).toNat = 8 * i := by omega
  have hst : (wcs n i).take i ++ AV.d (.v (.int .u8 (n / 2 ^ (8 * i) % 256))) :: (wcs n i).drop (i + 1) = wcs n (i + 1) := by
   rcases (by omega : i = 0 ∨ i = 1 ∨ i = 2 ∨ i = 3) with rfl | rfl | rfl | rfl <;> simp [wcs, List.range, List.range.loop, b0, b1, b2, b3]
  simp (maxSteps := 2000000) (disch := omega) only [hS, c54l0, hB, hset, hwl, e8, hst, go_sem, seval, reduceCtorEq]
  exact Nxt.mk (i + 1) (by omega) (Wk.slots (by rw [hS]; exact WkL.tail 7 _ rfl (by simp only [List.take_succ_cons, List.take_zero]; repeat' first | exact WkL.nil | refine WkL.cons (Wk1.rfl _) ?_ | refine WkL.cons Wk1.esl ?_ | refine WkL.cons (Wk1.gsl _ _ _) ?_ | refine WkL.cons (Wk1.any _) ?_))) (by omega)
 ·have hie : i = 4 := by omega
  subst hie
  have hel : elemsA (H ++ [ABlk.cells (wcs n 4)]) 1 (.hsl H.length 0 4 4 1) = some (((wordB n).map bd).map (·.map AV.d)) := by
   simp only [elemsA, hB]
   rw [if_pos ⟨by rw [hwl]; omega, trivial⟩]
   simp [wcs, wordB, List.range, List.range.loop]
  simp (maxSteps := 2000000) (disch := omega) only [hS, c54l0, hB, hwl, hel, bytesOf_bd, go_sem, seval, reduceCtorEq]
  refine Cont.rel (put_c (h.ext [.cells (wcs n 4)]) _ (by show (4 : Nat) ≤ 300000; omega)) ?_
  rintro v H' ⟨rfl, x', h1', h2'⟩
  simp (maxSteps := 2000000) (disch := omega) only [go_sem, seval, reduceCtorEq]
  exact Ret.keep ⟨rfl, x', h1', (Chg.app _).trans h2'⟩
end Go.Proofs.Ythifjndenhjobaa.Rid
