/- The reader's functions that take bytes. -/
import Derived.Test.YthifjndenhjobaaXB4
import Derived.Test.YthifjndenhjobaaXCodeD
namespace Go.Proofs.Ythifjndenhjobaa.Rid
set_option linter.unusedSimpArgs false
set_option linter.unusedVariables false
set_option maxRecDepth 20000
set_option maxHeartbeats 2000000
open Go.RowKit

def c68 : AC :=
 .seq (.reg [kn 2 (.mv (.c .nilp))])
 (.seq (.reg [kn 3 (.mv (.t 0)), kn 4 (.bd [(.d (.v (.string ⟨#[]⟩))), kz, (.d (.v (.bool false)))] [(0, 1, (.t 3))]), kn 5 (.bx (.t 4)), kn 2 (.mv (.t 5))])
 (.ret))
def r68 : List RC := [.t 2]

def c76 : AC :=
 .seq (.reg [kn 2 (.mv (kc 0))])
 (.seq (.reg [kn 6 (.mv (.t 0)), kn 7 (.call 100 [(.t 6), (kc 1)]), kn 5 (.mv (.t 7)), kn 8 (.ext (.t 5) 0), kn 9 (.ext (.t 5) 1), kn 3 (.mv (.t 8)), kn 4 (.mv (.t 9))])
 (.seq (.seq (.reg [kn 10 (.mv (.t 4)), kn 11 (.un .not (.t 10))])
 (.cond (.t 11) (.seq (.reg [kn 2 (.mv (kc 0))])
 (.ret)) (.skip)))
 (.seq (.reg [kn 12 (.mv (.t 3)), kn 13 (.ix (.t 12) (kc 0)), kn 14 (.cvi .i64 (.t 13)), kn 2 (.mv (.t 14))])
 (.ret))))
def r76 : List RC := [.t 2]

def c78 : AC :=
 .seq (.reg [kn 2 (.mv (.c (.d (.v (.bool false)))))])
 (.seq (.dreg [[], [0], [1], [2, 1], [3], [4, 3], [5, 3], [6, 3], [3], [8, 3], [9, 3], [10, 3], [11, 3], [7, 12, 3], [3, 13], [14, 3, 0, 1, 2, 3, 4, 5, 6, 7, 8, 9, 10, 11, 12, 13, 14]] [kn 3 (.mv (.t 0)), kn 4 (.call 101 [(.t 3)]), kn 5 (.un .not (.t 4)), kn 6 (.mv (.t 5)), ky 7 6 (.mv (.t 0)), ky 8 6 (.nc (.t 7)), ky 9 6 (.fa (.t 8) 1), ky 10 6 (.ld (.t 9) 1 false), ky 11 6 (.mv (.t 0)), ky 12 6 (.nc (.t 11)), ky 13 6 (.fa (.t 12) 0), ky 14 6 (.ld (.t 13) 1 false), ky 15 6 (.len true (.t 14)), ky 16 6 (.bin .eql (.t 10) (.t 15)), kn 17 (.pick (.t 6) (.t 16) (.c (.d (.v (.bool false))))), kn 2 (.mv (.t 17))])
 (.ret))
def r78 : List RC := [.t 2]

def c100 : AC :=
 .seq (.reg [kn 4 (.mv (.c (.d (.v (.string ⟨#[]⟩))))), kn 5 (.mv (.c (.d (.v (.bool false)))))])
 (.seq (.seq (.reg [kn 6 (.mv (.t 0)), kn 7 (.eqp false (.t 6) (.c .nilp)), kn 8 (.mv (.t 7)), ko 9 8 (.mv (.t 0)), ko 10 8 (.nc (.t 9)), ko 11 8 (.fa (.t 10) 2), ko 12 8 (.ld (.t 11) 1 false), kn 13 (.pick (.t 8) (.c (.d (.v (.bool true)))) (.t 12))])
 (.cond (.t 13) (.seq (.reg [kn 4 (.mv (.c (.d (.v (.string ⟨#[]⟩))))), kn 5 (.mv (.c (.d (.v (.bool false)))))])
 (.ret)) (.skip)))
 (.seq (.seq (.dreg [[], [0], [1], [2], [2], [4, 2], [5, 2], [6, 2], [7, 2], [2], [9, 2], [10, 2], [11, 2], [8, 12, 2], [3, 13, 2], [2, 14]] [kn 14 (.mv (.t 1)), kn 15 (.bin .lss (.t 14) (kc 0)), kn 16 (.mv (.t 15)), ko 17 16 (.mv (.t 1)), ko 18 16 (.mv (.t 0)), ko 19 16 (.nc (.t 18)), ko 20 16 (.fa (.t 19) 0), ko 21 16 (.ld (.t 20) 1 false), ko 22 16 (.len true (.t 21)), ko 23 16 (.mv (.t 0)), ko 24 16 (.nc (.t 23)), ko 25 16 (.fa (.t 24) 1), ko 26 16 (.ld (.t 25) 1 false), ko 27 16 (.bin .sub (.t 22) (.t 26)), ko 28 16 (.bin .gtr (.t 17) (.t 27)), kn 29 (.pick (.t 16) (.c (.d (.v (.bool true)))) (.t 28))])
 (.cond (.t 29) (.seq (.reg [kn 30 (.mv (.t 0)), kn 31 (.nc (.t 30)), kn 32 (.fa (.t 31) 2), ke (.st (.t 32) (.c (.d (.v (.bool true)))) 1)])
 (.seq (.reg [kn 4 (.mv (.c (.d (.v (.string ⟨#[]⟩))))), kn 5 (.mv (.c (.d (.v (.bool false)))))])
 (.ret))) (.skip)))
 (.seq (.reg [kn 33 (.mv (.t 0)), kn 34 (.nc (.t 33)), kn 35 (.fa (.t 34) 1), kn 36 (.ld (.t 35) 1 false), kn 37 (.mv (.t 1)), kn 38 (.bin .add (.t 36) (.t 37)), kn 39 (.nc (.t 33)), kn 40 (.fa (.t 39) 1), ke (.st (.t 40) (.t 38) 1)])
 (.seq (.dreg [[], [0], [1], [2], [], [4], [5], [6], [], [7, 8], [], [10], [11], [12], [3, 9, 13], [14, 0, 1, 2, 3, 4, 5, 6, 7, 8, 9, 10, 11, 12, 13, 14], [15, 0, 1, 2, 3, 4, 5, 6, 7, 8, 9, 10, 11, 12, 13, 14, 15]] [kn 41 (.mv (.t 0)), kn 42 (.nc (.t 41)), kn 43 (.fa (.t 42) 0), kn 44 (.ld (.t 43) 1 false), kn 45 (.mv (.t 0)), kn 46 (.nc (.t 45)), kn 47 (.fa (.t 46) 1), kn 48 (.ld (.t 47) 1 false), kn 49 (.mv (.t 1)), kn 50 (.bin .sub (.t 48) (.t 49)), kn 51 (.mv (.t 0)), kn 52 (.nc (.t 51)), kn 53 (.fa (.t 52) 1), kn 54 (.ld (.t 53) 1 false), kn 55 (.sli true (.t 44) (some (.t 50)) (some (.t 54)) 1), kn 4 (.mv (.t 55)), kn 5 (.mv (.c (.d (.v (.bool true)))))])
 (.ret)))))
def r100 : List RC := [.t 4, .t 5]

def c101 : AC :=
 .seq (.reg [kn 2 (.mv (.c (.d (.v (.bool false)))))])
 (.seq (.reg [kn 3 (.mv (.t 0)), kn 4 (.eqp false (.t 3) (.c .nilp)), kn 5 (.mv (.t 4)), ko 6 5 (.mv (.t 0)), ko 7 5 (.nc (.t 6)), ko 8 5 (.fa (.t 7) 2), ko 9 5 (.ld (.t 8) 1 false), kn 10 (.pick (.t 5) (.c (.d (.v (.bool true)))) (.t 9)), kn 2 (.mv (.t 10))])
 (.ret))
def r101 : List RC := [.t 2]

theorem cc68 : Try.f68.body.bind (comp Try.prog (hhD 68)) = some c68 := by kernel_rfl
theorem rr68 : resC Try.prog Try.f68 = some r68 := by kernel_rfl
theorem cc76 : Try.f76.body.bind (comp Try.prog (hhD 76)) = some c76 := by kernel_rfl
theorem rr76 : resC Try.prog Try.f76 = some r76 := by kernel_rfl
theorem cc78 : Try.f78.body.bind (comp Try.prog (hhD 78)) = some c78 := by kernel_rfl
theorem rr78 : resC Try.prog Try.f78 = some r78 := by kernel_rfl
theorem cc100 : Try.f100.body.bind (comp Try.prog (hhD 100)) = some c100 := by kernel_rfl
theorem rr100 : resC Try.prog Try.f100 = some r100 := by kernel_rfl
theorem cc101 : Try.f101.body.bind (comp Try.prog (hhD 101)) = some c101 := by kernel_rfl
theorem rr101 : resC Try.prog Try.f101 = some r101 := by kernel_rfl
abbrev rd (s : ByteArray) (a : Nat) (bad : Bool) : ABlk := .cells [sv s, iv a, bv bad]
structure Rd where
 a : Nat
 bad : Bool
def takeF (s : ByteArray) (r : Rd) (n : Int) : ByteArray × Bool × Rd :=
 if r.bad = true then (nl, false, r) else if n < 0 ∨ n > (s.size : Int) - r.a then (nl, false, ⟨r.a, true⟩) else (s.extract r.a (r.a + n.toNat), true, ⟨r.a + n.toNat, false⟩)
theorem takeF_le {s : ByteArray} {r : Rd} (h : r.a ≤ s.size) (n : Int) : (takeF s r n).2.2.a ≤ s.size := by
 unfold takeF; split
 ·exact h
 ·split
  ·exact h
  ·rename_i h2; show r.a + n.toNat ≤ s.size; omega
theorem take_c {H : List ABlk} {rb : Nat} {s : ByteArray} {r : Rd} (h : H[rb]? = some (rd s r.a r.bad)) (hs : s.size ≤ 300000) (ha : r.a ≤ s.size) (n : Int) : ACalls Try.prog 100 [.ptr rb 0, iv n] H fun v H' => v = .tup [sv (takeF s r n).1, bv (takeF s r n).2.1] ∧ H' = H.set rb (rd s (takeF s r n).2.2.a (takeF s r n).2.2.bad) := by
 refine ACalls.into Try.func100 cc100 rr100 fun hcl => ?_
 have hS : ∀ x, (H.set rb x)[rb]? = some x := fun x => getset_eq h
 obtain ⟨a, bad⟩ := r
 simp only at h ha
 cases bad with
 | true =>
  simp (maxSteps := 2000000) (disch := omega) only [Try.ntmps100, c100, r100, h, go_sem, seval, reduceCtorEq]
  exact Ret.keep ⟨rfl, by simp only [takeF, if_true]; rw [set_self h]⟩
 | false =>
  simp (maxSteps := 2000000) (disch := omega) only [Try.ntmps100, c100, r100, h, go_sem, seval, reduceCtorEq]
  refine W.pchain follows (by decide +kernel) ?_
  by_cases h1 : n < 0
  ·simp (maxSteps := 2000000) (disch := omega) only [h, go_sem, seval, reduceCtorEq]
   exact Ret.keep ⟨by simp [takeF, h1], by simp [takeF, h1]⟩
  by_cases h2 : n > (s.size : Int) - a
  ·simp (maxSteps := 2000000) (disch := omega) only [h, go_sem, seval, reduceCtorEq]
   exact Ret.keep ⟨by simp [takeF, h2], by simp [takeF, h2]⟩
  obtain ⟨m, rfl⟩ := Int.eq_ofNat_of_zero_le (Int.not_lt.1 h1)
  have e0 : takeF s ⟨a, false⟩ (m : Int) = (s.extract a (a + m), true, ⟨a + m, false⟩) := by
   simp only [takeF]
   rw [if_neg (by simp), if_neg (by simp; omega)]
   simp
  have e1 : ((a : Int) + (m : Int) - (m : Int)).toNat = a := by omega
  have e2 : ((a : Int) + (m : Int)).toNat = a + m := by omega
  simp (maxSteps := 2000000) (disch := omega) only [h, go_sem, seval, reduceCtorEq]
  refine W.pchain follows (by decide +kernel) ?_
  simp (maxSteps := 2000000) (disch := omega) only [hS, e1, e2, go_sem, seval, reduceCtorEq]
  exact Ret.keep ⟨by rw [e0], by rw [e0]; rfl⟩
theorem chr_ex {s : ByteArray} {a m i : Nat} (hi : i < m) (h : a + m ≤ s.size) : (s.extract a (a + m)).data.toList.getD i 0 = s.data.toList.getD (a + i) 0 := by
 rw [ex_list, List.getD_eq_getElem?_getD, List.getD_eq_getElem?_getD, List.getElem?_take, if_pos (by omega), List.getElem?_drop]
def byteF (s : ByteArray) (r : Rd) : Int × Rd := (if (takeF s r 1).2.1 = true then chr s r.a else 0, (takeF s r 1).2.2)
theorem byte_c {H : List ABlk} {rb : Nat} {s : ByteArray} {r : Rd} (h : H[rb]? = some (rd s r.a r.bad)) (hs : s.size ≤ 300000) (ha : r.a ≤ s.size) : ACalls Try.prog 76 [.ptr rb 0] H fun v H' => v = iv (byteF s r).1 ∧ H' = H.set rb (rd s (byteF s r).2.a (byteF s r).2.bad) := by
 refine ACalls.into Try.func76 cc76 rr76 fun hcl => ?_
 simp (maxSteps := 2000000) (disch := omega) only [Try.ntmps76, c76, r76, go_sem, seval, reduceCtorEq]
 refine Cont.mk (take_c h hs ha 1) ?_
 have hb : (byteF s r).2 = (takeF s r 1).2.2 := rfl
 rw [hb]
 cases e : (takeF s r 1).2.1 with
 | false =>
  simp (maxSteps := 2000000) (disch := omega) only [go_sem, seval, reduceCtorEq]
  exact Ret.keep ⟨by rw [byteF, e]; rfl, rfl⟩
 | true =>
  have e2 : r.a + 1 ≤ s.size ∧ (takeF s r 1).1 = s.extract r.a (r.a + 1) := by
   unfold takeF at e ⊢
   split at e
   ·cases e
   ·split at e
    ·cases e
    ·rename_i q1 q2
     rw [if_neg q1, if_neg q2]
     exact ⟨by omega, rfl⟩
  have e3 : (takeF s r 1).1.size = 1 := by rw [e2.2, ex_size _ _ _ e2.1]; omega
  have e4 : (takeF s r 1).1.data.toList.getD 0 0 = s.data.toList.getD r.a 0 := by rw [e2.2, chr_ex (by omega) e2.1]; rfl
  have hlt := (s.data.toList.getD r.a 0).toNat_lt
  simp (maxSteps := 2000000) (disch := omega) only [e3, e4, go_sem, seval, reduceCtorEq]
  exact Ret.keep ⟨by rw [byteF, e]; rfl, rfl⟩
theorem bad_c {H : List ABlk} {rb : Nat} {s : ByteArray} {r : Rd} (h : H[rb]? = some (rd s r.a r.bad)) : ACalls Try.prog 101 [.ptr rb 0] H fun v H' => v = bv r.bad ∧ H' = H := by
 refine ACalls.into Try.func101 cc101 rr101 fun hcl => ?_
 simp (maxSteps := 2000000) (disch := omega) only [Try.ntmps101, c101, r101, h, go_sem, seval, reduceCtorEq]
 exact Ret.keep ⟨rfl, rfl⟩
def endF (s : ByteArray) (r : Rd) : Bool := !r.bad && decide (r.a = s.size)
theorem end_c {H : List ABlk} {rb : Nat} {s : ByteArray} {r : Rd} (h : H[rb]? = some (rd s r.a r.bad)) : ACalls Try.prog 78 [.ptr rb 0] H fun v H' => v = bv (endF s r) ∧ H' = H := by
 refine ACalls.into Try.func78 cc78 rr78 fun hcl => ?_
 simp (maxSteps := 2000000) (disch := omega) only [Try.ntmps78, c78, r78, go_sem, seval, reduceCtorEq]
 refine W.pchain follows (by decide +kernel) ?_
 simp (maxSteps := 2000000) (disch := omega) only [go_sem, seval, reduceCtorEq]
 refine PCont.mk (bad_c h) ?_
 cases e : r.bad with
 | true =>
  rw [e] at h
  simp (maxSteps := 2000000) (disch := omega) only [go_sem, seval, reduceCtorEq]
  exact Ret.keep ⟨by rw [endF, e]; rfl, rfl⟩
 | false =>
  rw [e] at h
  simp (maxSteps := 2000000) (disch := omega) only [h, go_sem, seval, reduceCtorEq]
  refine Ret.keep ⟨?_, rfl⟩
  rw [endF, e]
  simp only [Bool.not_false, Bool.true_and]
  congr 3
  exact decide_eq_decide.2 (by omega)
theorem read_c (s : ByteArray) (H : List ABlk) : ACalls Try.prog 68 [sv s] H fun v H' => v = .ptr H.length 0 ∧ H' = H ++ [rd s 0 false] := by
 refine ACalls.into Try.func68 cc68 rr68 fun hcl => ?_
 simp (maxSteps := 2000000) (disch := omega) only [Try.ntmps68, c68, r68, go_sem, seval, reduceCtorEq]
 exact Ret.keep ⟨rfl, rfl⟩

end Go.Proofs.Ythifjndenhjobaa.Rid

/- The reader: numbers, words, texts. -/
namespace Go.Proofs.Ythifjndenhjobaa.Rid
set_option linter.unusedSimpArgs false
set_option linter.unusedVariables false
set_option maxRecDepth 20000
set_option maxHeartbeats 2000000
open Go.RowKit

def c77l0 : AC :=
 .seq (.seq (.reg [kn 24 (.mv (.t 5)), kn 25 (.mv (.t 3)), kn 26 (.len true (.t 25)), kn 27 (.bin .lss (.t 24) (.t 26)), kn 28 (.mv (.t 27)), ky 29 28 (.mv (.t 5)), ky 30 28 (.bin .lss (.t 29) (kc 5)), kn 31 (.pick (.t 28) (.t 30) (.c (.d (.v (.bool false)))))])
 (.cond (.t 31) (.skip) (.exit 0)))
 (.block 1 (.seq (.reg [kn 32 (.mv (.t 3)), kn 33 (.mv (.t 5)), kn 34 (.ix (.t 32) (.t 33)), kn 6 (.mv (.t 34))])
 (.seq (.reg [kn 35 (.mv (.t 4)), kn 36 (.mv (.t 6)), kn 37 (.bin .and (.t 36) (.c (.d (.v (.int .u8 127))))), kn 38 (.cvi .i64 (.t 37)), kn 39 (.mv (.t 5)), kn 40 (.bin .mul (kc 7) (.t 39)), kn 41 (.bin .shl (.t 38) (.t 40)), kn 42 (.bin .or (.t 35) (.t 41)), kn 4 (.mv (.t 42))])
 (.seq (.reg [kn 43 (.mv (.t 5)), kn 44 (.bin .add (.t 43) (kc 1)), kn 5 (.mv (.t 44))])
 (.seq (.seq (.reg [kn 45 (.mv (.t 6)), kn 46 (.bin .geq (.t 45) (.c (.d (.v (.int .u8 128)))))])
 (.cond (.t 46) (.exit 1) (.skip)))
 (.seq (.seq (.reg [kn 47 (.mv (.t 6)), kn 48 (.bin .and (.t 47) (.c (.d (.v (.int .u8 64))))), kn 49 (.bin .neq (.t 48) (.c (.d (.v (.int .u8 0)))))])
 (.cond (.t 49) (.reg [kn 50 (.mv (.t 4)), kn 51 (.mv (.t 5)), kn 52 (.bin .mul (kc 7) (.t 51)), kn 53 (.bin .shl (kc (-1)) (.t 52)), kn 54 (.bin .or (.t 50) (.t 53)), kn 4 (.mv (.t 54))]) (.skip)))
 (.seq (.seq (.reg [kn 55 (.mv (.t 4)), kn 56 (.call 92 [(.t 55), (kc 32)]), kn 57 (.mv (.t 56)), ky 58 57 (.mv (.t 4)), ky 59 57 (.call 93 [(.t 58)]), ky 60 57 (.len true (.t 59)), ky 61 57 (.mv (.t 5)), ky 62 57 (.bin .eql (.t 60) (.t 61)), kn 63 (.pick (.t 57) (.t 62) (.c (.d (.v (.bool false)))))])
 (.cond (.t 63) (.seq (.reg [kn 64 (.mv (.t 0)), kn 65 (.nc (.t 64)), kn 66 (.fa (.t 65) 1), kn 67 (.ld (.t 66) 1 false), kn 68 (.mv (.t 5)), kn 69 (.bin .add (.t 67) (.t 68)), kn 70 (.nc (.t 64)), kn 71 (.fa (.t 70) 1), ke (.st (.t 71) (.t 69) 1)])
 (.seq (.reg [kn 72 (.mv (.t 4)), kn 2 (.mv (.t 72))])
 (.ret))) (.skip)))
 (.exit 0))))))))

def c77 : AC :=
 .seq (.reg [kn 2 (.mv (kc 0))])
 (.seq (.seq (.reg [kn 7 (.mv (.t 0)), kn 8 (.eqp false (.t 7) (.c .nilp)), kn 9 (.mv (.t 8)), ko 10 9 (.mv (.t 0)), ko 11 9 (.nc (.t 10)), ko 12 9 (.fa (.t 11) 2), ko 13 9 (.ld (.t 12) 1 false), kn 14 (.pick (.t 9) (.c (.d (.v (.bool true)))) (.t 13))])
 (.cond (.t 14) (.seq (.reg [kn 2 (.mv (kc 0))])
 (.ret)) (.skip)))
 (.seq (.dreg [[], [0], [1], [2], [], [4], [5], [6], [3, 7], [8, 0, 1, 2, 3, 4, 5, 6, 7, 8]] [kn 15 (.mv (.t 0)), kn 16 (.nc (.t 15)), kn 17 (.fa (.t 16) 0), kn 18 (.ld (.t 17) 1 false), kn 19 (.mv (.t 0)), kn 20 (.nc (.t 19)), kn 21 (.fa (.t 20) 1), kn 22 (.ld (.t 21) 1 false), kn 23 (.sli true (.t 18) (some (.t 22)) none 1), kn 3 (.mv (.t 23))])
 (.seq (.reg [kn 4 (.mv (kc 0)), kn 5 (.mv (kc 0))])
 (.seq (.block 0 (.loop c77l0))
 (.seq (.reg [kn 73 (.mv (.t 0)), kn 74 (.nc (.t 73)), kn 75 (.fa (.t 74) 2), ke (.st (.t 75) (.c (.d (.v (.bool true)))) 1)])
 (.seq (.reg [kn 2 (.mv (kc 0))])
 (.ret)))))))
def r77 : List RC := [.t 2]

theorem cc77 : Try.f77.body.bind (comp Try.prog (hhD 77)) = some c77 := by kernel_rfl
theorem rr77 : resC Try.prog Try.f77 = some r77 := by kernel_rfl
def numF (s : ByteArray) (r : Rd) : Int × Rd :=
 if r.bad = true then (0, r) else match decN (s.data.toList.drop r.a) with
  | some p => (p.1, ⟨r.a + p.2, false⟩)
  | none => (0, ⟨r.a, true⟩)
theorem dec_le : ∀ (d : Nat) (l : List UInt8) (k : Nat) (n : Int) (p : Int × Nat), dec d l k n = some p → p.2 ≤ k + l.length
 | 0, l, k, n, p, h => by simp [dec] at h
 | d + 1, [], k, n, p, h => by simp [dec] at h
 | d + 1, c :: r, k, n, p, h => by
  simp only [dec] at h
  split at h
  ·have := dec_le d r (k + 1) _ p h
   simp only [List.length_cons]; omega
  ·split at h <;> split at h <;> first | (cases h; simp; done) | cases h
theorem numF_le {s : ByteArray} {r : Rd} (h : r.a ≤ s.size) : (numF s r).2.a ≤ s.size := by
 unfold numF
 split
 ·exact h
 ·split
  ·rename_i p hp
   have := dec_le _ _ _ _ _ hp
   rw [List.length_drop, len_data] at this
   show r.a + p.2 ≤ s.size
   omega
  ·exact h
theorem and127c {c : Nat} (h : c < 256) : ((BitVec.ofInt IntKind.u8.bits (c : Int) &&& BitVec.ofInt IntKind.u8.bits 127).toNat : Int) % 256 = ((c % 128 : Nat) : Int) := by
 have := and127 (c : Int)
 rw [Int.emod_eq_of_lt (by omega) (by omega)] at this
 show ((BitVec.ofInt 8 (c : Int) &&& BitVec.ofInt 8 127).toNat : Int) % 256 = _
 rw [this]; omega
theorem and64c {c : Nat} (h : c < 128) : decide (((BitVec.ofInt IntKind.u8.bits (c : Int) &&& BitVec.ofInt IntKind.u8.bits 64).toNat : Int) % 256 = 0) = decide (¬ 64 ≤ c) := by
 have : ∀ x : Fin 128, decide (((BitVec.ofNat 8 x.val &&& BitVec.ofInt 8 64).toNat : Int) % 256 = 0) = decide (¬ 64 ≤ x.val) := by decide +kernel
 have := this ⟨c, h⟩
 rw [← BitVec.ofInt_natCast] at this
 exact this
theorem and64d {c : Nat} (h : c < 128) : decide (((BitVec.ofInt 8 (c : Int) &&& 64#8).toNat : Int) = 0) = decide (¬ 64 ≤ c) := by
 have := and64c h
 have hl : (((BitVec.ofInt 8 (c : Int) &&& 64#8).toNat : Nat) : Int) % 256 = ((BitVec.ofInt 8 (c : Int) &&& 64#8).toNat : Nat) := by
  have := (BitVec.ofInt 8 (c : Int) &&& 64#8).isLt
  omega
 rw [← hl]
 exact this
theorem or64 {a x : Int} {k : Nat} (h0 : 0 ≤ a) (h1 : a < 2 ^ k) (hk : k < 64) (h2 : -9223372036854775808 ≤ a + x * 2 ^ k) (h3 : a + x * 2 ^ k < 9223372036854775808) : IntKind.i64.wrap ((BitVec.ofInt IntKind.i64.bits a ||| BitVec.ofInt IntKind.i64.bits (x * 2 ^ k)).toNat : Int) = a + x * 2 ^ k := by
 show IntKind.i64.wrap ((BitVec.ofInt 64 a ||| BitVec.ofInt 64 (x * 2 ^ k)).toNat : Int) = _
 rw [or_low h0 h1 hk, to64 h2 h3]
theorem pow7 (k : Nat) : (2 : Int) ^ (7 * k) = 128 ^ k := by rw [Int.pow_mul]; rfl
structure NmG where
 k : Nat
 n : Int
theorem num_c {H : List ABlk} {rb : Nat} {s : ByteArray} {r : Rd} (h : H[rb]? = some (rd s r.a r.bad)) (hs : s.size ≤ 300000) (ha : r.a ≤ s.size) : ACalls Try.prog 77 [.ptr rb 0] H fun v H' => v = iv (numF s r).1 ∧ H' = H.set rb (rd s (numF s r).2.a (numF s r).2.bad) := by
 refine ACalls.into Try.func77 cc77 rr77 fun hcl => ?_
 have hS : ∀ x, (H.set rb x)[rb]? = some x := fun x => getset_eq h
 obtain ⟨a, bad⟩ := r
 simp only at h ha
 cases bad with
 | true =>
  simp (maxSteps := 2000000) (disch := omega) only [Try.ntmps77, c77, r77, h, go_sem, seval, reduceCtorEq]
  exact Ret.keep ⟨rfl, by simp only [numF, if_true]; rw [set_self h]⟩
 | false =>
  simp (maxSteps := 2000000) (disch := omega) only [Try.ntmps77, c77, r77, h, go_sem, seval, reduceCtorEq]
  refine W.pchain follows (by decide +kernel) ?_
  simp (maxSteps := 2000000) (disch := omega) only [h, go_sem, seval, reduceCtorEq]
  obtain ⟨t, ht⟩ : ∃ t, t = s.extract a s.size := ⟨_, rfl⟩
  have htl : t.data.toList = s.data.toList.drop a := by
   rw [ht, ex_list, List.take_of_length_le (by rw [List.length_drop, len_data]; omega)]
  have hts : t.size = s.size - a := by rw [ht, ex_size _ _ _ (Nat.le_refl _)]
  obtain ⟨S, hS2⟩ : ∃ S : NmG → List AV, ∀ g, S g = [.ptr rb 0, .any, .any, sv t, iv g.n, iv g.k] ++ List.replicate 70 .any := ⟨_, fun _ => rfl⟩
  rw [← ht]
  have fin : ∀ o, decN (s.data.toList.drop a) = o → numF s ⟨a, false⟩ = match o with
   | some p => (p.1, ⟨a + p.2, false⟩)
   | none => (0, ⟨a, true⟩) := fun o ho => by rw [numF, if_neg (by simp), ho]
  refine W.loopG (γ := NmG) (fun g => 5 - g.k) S (fun _ => H) (fun g => g.k ≤ 5 ∧ g.k ≤ t.size ∧ decN t.data.toList = dec (5 - g.k) (t.data.toList.drop g.k) g.k g.n ∧ 0 ≤ g.n ∧ g.n < 128 ^ g.k) ⟨0, 0⟩ (Wk.slots (by rw [hS2]; exact WkL.tail 6 _ rfl (by simp only [List.take_succ_cons, List.take_zero]; repeat' first | exact WkL.nil | refine WkL.cons (Wk1.rfl _) ?_ | refine WkL.cons Wk1.esl ?_ | refine WkL.cons (Wk1.gsl _ _ _) ?_ | refine WkL.cons (Wk1.any _) ?_))) ⟨by show (0 : Nat) ≤ 5; omega, Nat.zero_le _, rfl, by decide, by decide⟩ (fun g hg => ?_)
  obtain ⟨q1, q2, q3, q4, q5⟩ := hg
  have hgiveup : decN t.data.toList = none → Ret r77 H.length (fun v H' => v = iv (numF s ⟨a, false⟩).1 ∧ H' = H.set rb (rd s (numF s ⟨a, false⟩).2.a (numF s ⟨a, false⟩).2.bad)) (some (iv 0)) (H.set rb (rd s a true)) := fun hd => by
   rw [htl] at hd
   rw [fin none hd]
   exact Ret.keep ⟨rfl, rfl⟩
  simp only [r77] at hgiveup
  by_cases u1 : g.k < t.size
  ·by_cases u2 : g.k < 5
   ·have hdrop : t.data.toList.drop g.k = t.data.toList.getD g.k 0 :: t.data.toList.drop (g.k + 1) := by
     rw [List.drop_eq_getElem_cons (by rw [len_data]; exact u1), List.getD_eq_getElem?_getD, List.getElem?_eq_getElem (by rw [len_data]; exact u1)]; rfl
    obtain ⟨d, hd⟩ : ∃ d, 5 - g.k = d + 1 := ⟨4 - g.k, by omega⟩
    rw [hd, hdrop] at q3
    have hd2 : 5 - (g.k + 1) = d := by omega
    have hclt := (t.data.toList.getD g.k 0).toNat_lt
    obtain ⟨c, hcc⟩ : ∃ c, t.data.toList.getD g.k 0 = c := ⟨_, rfl⟩
    rw [hcc] at q3 hclt
    have hpk : (128 : Int) ^ g.k ≤ 268435456 := by
     rcases (by omega : g.k = 0 ∨ g.k = 1 ∨ g.k = 2 ∨ g.k = 3 ∨ g.k = 4) with e | e | e | e | e <;> rw [e] <;> decide
    have hp1 : (0 : Int) < 128 ^ g.k := Int.pow_pos (by decide)
    have hc2 : (((c.toNat % 128 : Nat) : Int)) * 128 ^ g.k ≤ 127 * 128 ^ g.k := Int.mul_le_mul_of_nonneg_right (by omega) (by omega)
    have hc3 : 0 ≤ (((c.toNat % 128 : Nat) : Int)) * 128 ^ g.k := Int.mul_nonneg (by omega) (by omega)
    have e7 : (7 * (g.k : Int)).toNat = 7 * g.k := by omega
    have eor : IntKind.i64.wrap ((BitVec.ofInt IntKind.i64.bits g.n ||| BitVec.ofInt IntKind.i64.bits (((c.toNat % 128 : Nat) : Int) * 128 ^ g.k)).toNat : Int) = g.n + ((c.toNat % 128 : Nat) : Int) * 128 ^ g.k := by
     have := or64 (a := g.n) (x := ((c.toNat % 128 : Nat) : Int)) (k := 7 * g.k) q4 (by rw [pow7]; exact q5) (by omega) (by rw [pow7]; omega) (by rw [pow7]; omega)
     rwa [pow7] at this
    have z1 := and127c hclt
    try simp only [go_sem, seval, reduceCtorEq] at z1
    have z2 := eor
    try simp only [go_sem, seval, reduceCtorEq] at z2
    have hq5 : g.n + ((c.toNat % 128 : Nat) : Int) * 128 ^ g.k < 128 ^ (g.k + 1) := by rw [Int.pow_succ]; omega
    by_cases u3 : 128 ≤ c.toNat
    ·rw [dec, if_pos u3, ← hd2] at q3
     simp (maxSteps := 2000000) (disch := omega) only [hS2, c77l0, hcc, and127c hclt, e7, pow7, eor, z1, z2, go_sem, seval, reduceCtorEq]
     exact Nxt.mk ⟨g.k + 1, g.n + ((c.toNat % 128 : Nat) : Int) * 128 ^ g.k⟩ (by show 5 - (g.k + 1) < 5 - g.k; omega) (Wk.slots (by rw [hS2]; exact WkL.tail 6 _ rfl (by simp only [List.take_succ_cons, List.take_zero]; repeat' first | exact WkL.nil | refine WkL.cons (Wk1.rfl _) ?_ | refine WkL.cons Wk1.esl ?_ | refine WkL.cons (Wk1.gsl _ _ _) ?_ | refine WkL.cons (Wk1.any _) ?_))) ⟨by show g.k + 1 ≤ 5; omega, by show g.k + 1 ≤ t.size; omega, q3, by show 0 ≤ g.n + _; omega, hq5⟩
    ·have hand := and64c (c := c.toNat) (by omega)
     rw [dec, if_neg u3] at q3
     have e8 : (7 * ((g.k : Int) + 1)).toNat = 7 * (g.k + 1) := by omega
     by_cases u4 : 64 ≤ c.toNat
     ·rw [decide_eq_false (p := ¬ 64 ≤ c.toNat) (by simpa using u4)] at hand
      rw [if_pos u4] at q3
      have ham : g.n + ((c.toNat % 128 : Nat) : Int) * 128 ^ g.k - 128 ^ (g.k + 1) = g.n + ((c.toNat % 128 : Nat) : Int) * 128 ^ g.k + -1 * 128 ^ (g.k + 1) := by omega
      have hpk2 : (128 : Int) ^ (g.k + 1) ≤ 34359738368 := by rw [Int.pow_succ]; omega
      have eor2 : IntKind.i64.wrap ((BitVec.ofInt IntKind.i64.bits (g.n + ((c.toNat % 128 : Nat) : Int) * 128 ^ g.k) ||| BitVec.ofInt IntKind.i64.bits (-1 * 128 ^ (g.k + 1))).toNat : Int) = g.n + ((c.toNat % 128 : Nat) : Int) * 128 ^ g.k + -1 * 128 ^ (g.k + 1) := by
       have := or64 (a := g.n + ((c.toNat % 128 : Nat) : Int) * 128 ^ g.k) (x := -1) (k := 7 * (g.k + 1)) (by omega) (by rw [pow7]; exact hq5) (by omega) (by rw [pow7]; omega) (by rw [pow7]; omega)
       rwa [pow7] at this
      have z3 := and64d (c := c.toNat) (by omega)
      rw [decide_eq_false (p := ¬ 64 ≤ c.toNat) (by simpa using u4)] at z3
      have z5 : (((@HAnd.hAnd (BitVec 8) (BitVec 8) (BitVec 8) (@instHAndOfAndOp (BitVec IntKind.u8.bits) (@BitVec.instAndOp IntKind.u8.bits)) (BitVec.ofInt 8 (c.toNat : Int)) 64#8).toNat : Int) = 0) = False := eq_false (of_decide_eq_false z3)
      have z4 := eor2
      try simp only [go_sem, seval, reduceCtorEq] at z4
      simp (maxSteps := 2000000) (disch := omega) only [hS2, c77l0, hcc, and127c hclt, e7, e8, pow7, eor, hand, eor2, z1, z2, z3, z4, z5, go_sem, seval, reduceCtorEq]
      rw [ham] at q3
      generalize g.n + ((c.toNat % 128 : Nat) : Int) * 128 ^ g.k + -1 * 128 ^ (g.k + 1) = m at q3 ⊢
      refine Cont.mk (fits32_c m H) ?_
      by_cases f32 : fit32 m
      ·simp (maxSteps := 2000000) (disch := omega) only [decide_eq_true f32, go_sem, seval, reduceCtorEq]
       refine Cont.mk (compact_c m f32 H) ?_
       have hcs : (⟨(comp7 m).toArray⟩ : ByteArray).size = (comp7 m).length := by show (comp7 m).toArray.size = _; simp
       by_cases fl : (comp7 m).length = g.k + 1
       ·rw [if_pos ⟨f32, fl⟩, htl] at q3
        have hcast : (a : Int) + ((g.k : Int) + 1) = ((a + (g.k + 1) : Nat) : Int) := by omega
        have hfi : ((g.k + 1 : Nat) : Int) = (g.k : Int) + 1 := by omega
        simp (maxSteps := 2000000) (disch := omega) only [hcs, fl, h, hS, go_sem, seval, reduceCtorEq]
        rw [hcast]
        exact Ret.keep ⟨by rw [fin _ q3], by rw [fin _ q3]⟩
       ·rw [if_neg (fun e => fl e.2)] at q3
        have fl2 : ¬ ((comp7 m).length : Int) = (g.k : Int) + 1 := by omega
        simp (maxSteps := 2000000) (disch := omega) only [hcs, fl2, h, hS, inB_o (id := 1) (id' := 0) (by decide), go_sem, seval, reduceCtorEq]
        exact hgiveup q3
      ·rw [if_neg (fun e => f32 e.1)] at q3
       simp (maxSteps := 2000000) (disch := omega) only [decide_eq_false f32, h, hS, inB_o (id := 1) (id' := 0) (by decide), go_sem, seval, reduceCtorEq]
       exact hgiveup q3
     ·rw [decide_eq_true (p := ¬ 64 ≤ c.toNat) u4] at hand
      rw [if_neg u4] at q3
      have z3 := and64d (c := c.toNat) (by omega)
      rw [decide_eq_true (p := ¬ 64 ≤ c.toNat) u4] at z3
      have z5 : (((@HAnd.hAnd (BitVec 8) (BitVec 8) (BitVec 8) (@instHAndOfAndOp (BitVec IntKind.u8.bits) (@BitVec.instAndOp IntKind.u8.bits)) (BitVec.ofInt 8 (c.toNat : Int)) 64#8).toNat : Int) = 0) = True := eq_true (of_decide_eq_true z3)
      simp (maxSteps := 2000000) (disch := omega) only [hS2, c77l0, hcc, and127c hclt, e7, e8, pow7, eor, hand, z1, z2, z3, z5, go_sem, seval, reduceCtorEq]
      generalize g.n + ((c.toNat % 128 : Nat) : Int) * 128 ^ g.k = m at q3 ⊢
      refine Cont.mk (fits32_c m H) ?_
      by_cases f32 : fit32 m
      ·simp (maxSteps := 2000000) (disch := omega) only [decide_eq_true f32, go_sem, seval, reduceCtorEq]
       refine Cont.mk (compact_c m f32 H) ?_
       have hcs : (⟨(comp7 m).toArray⟩ : ByteArray).size = (comp7 m).length := by show (comp7 m).toArray.size = _; simp
       by_cases fl : (comp7 m).length = g.k + 1
       ·rw [if_pos ⟨f32, fl⟩, htl] at q3
        have hcast : (a : Int) + ((g.k : Int) + 1) = ((a + (g.k + 1) : Nat) : Int) := by omega
        have hfi : ((g.k + 1 : Nat) : Int) = (g.k : Int) + 1 := by omega
        simp (maxSteps := 2000000) (disch := omega) only [hcs, fl, h, hS, go_sem, seval, reduceCtorEq]
        rw [hcast]
        exact Ret.keep ⟨by rw [fin _ q3], by rw [fin _ q3]⟩
       ·rw [if_neg (fun e => fl e.2)] at q3
        have fl2 : ¬ ((comp7 m).length : Int) = (g.k : Int) + 1 := by omega
        simp (maxSteps := 2000000) (disch := omega) only [hcs, fl2, h, hS, inB_o (id := 1) (id' := 0) (by decide), go_sem, seval, reduceCtorEq]
        exact hgiveup q3
      ·rw [if_neg (fun e => f32 e.1)] at q3
       simp (maxSteps := 2000000) (disch := omega) only [decide_eq_false f32, h, hS, inB_o (id := 1) (id' := 0) (by decide), go_sem, seval, reduceCtorEq]
       exact hgiveup q3
   ·have hk5 : g.k = 5 := by omega
    have hno : decN t.data.toList = none := by rw [q3, hk5]; rfl
    simp (maxSteps := 2000000) (disch := omega) only [hS2, c77l0, h, go_sem, seval, reduceCtorEq]
    exact hgiveup hno
  ·have hke : g.k = t.size := by omega
   have hno : decN t.data.toList = none := by
    rw [q3, hke, List.drop_eq_nil_of_le (by rw [len_data]; exact Nat.le_refl _)]
    cases 5 - t.size <;> rfl
   simp (maxSteps := 2000000) (disch := omega) only [hS2, c77l0, h, go_sem, seval, reduceCtorEq]
   exact hgiveup hno
end Go.Proofs.Ythifjndenhjobaa.Rid
