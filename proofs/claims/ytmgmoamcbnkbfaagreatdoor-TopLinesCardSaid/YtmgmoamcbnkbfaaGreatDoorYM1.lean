/- The memory. -/
import Derived.Test.YtmgmoamcbnkbfaaGreatDoorYSet
import Derived.Test.YtmgmoamcbnkbfaaGreatDoorYDraw3
import Derived.Test.YtmgmoamcbnkbfaaGreatDoorYCode
set_option linter.unusedVariables false
set_option linter.unusedSimpArgs false
set_option linter.unusedSectionVars false
namespace Go.Proofs.YtmgmoamcbnkbfaaGreatDoor
set_option linter.unusedSimpArgs false
set_option linter.unusedVariables false
set_option maxRecDepth 20000
set_option maxHeartbeats 2000000
open Go.RowKit

theorem follows : Tryz.prog.follows .mixedOrders = true := by kernel_rfl
abbrev wv (n : Int) : AV := .d (.v (.int .u32 n))
abbrev iv (n : Int) : AV := .d (.v (.int .i64 n))
abbrev bv (b : Bool) : AV := .d (.v (.bool b))

structure MemAt (H : List ABlk) (pb wb : Nat) (ws : List Int) : Prop where
  p : H[pb]? = some (.cells [.hsl wb 0 ws.length ws.length 1])
  w : H[wb]? = some (.cells (ws.map wv))
  len : ws.length ≤ 65536
  rng : ∀ x ∈ ws, 0 ≤ x ∧ x < 4294967296

theorem size_c {H : List ABlk} {pb wb : Nat} {ws : List Int} (hm : MemAt H pb wb ws) : ACalls Tryz.prog 40 [.ptr pb 0] H fun v H' => v = iv ws.length ∧ H' = H := by
  refine ACalls.into Tryz.func40 cc40 rr40 fun hcl => ?_
  simp (maxSteps := 2000000) (disch := omega) only [Tryz.ntmps40, c40, r40, ptrsA, hm.p, go_sem, seval, eq_self, if_true, if_false, reduceCtorEq]
  exact Ret.keep ⟨rfl, rfl⟩

theorem getD_rng {ws : List Int} (h : ∀ x ∈ ws, 0 ≤ x ∧ x < 4294967296) (i : Nat) : 0 ≤ ws.getD i 0 ∧ ws.getD i 0 < 4294967296 := by
  rw [List.getD_eq_getElem?_getD]
  by_cases hi : i < ws.length
  · rw [List.getElem?_eq_getElem hi]; exact h _ (List.getElem_mem hi)
  · rw [List.getElem?_eq_none (by omega)]; simp
theorem wv_get1 {ws : List Int} {i : Nat} (h : i < ws.length) : ((ws.map wv).drop i).take 1 = [wv (ws.getD i 0)] := by
  rw [List.drop_eq_getElem_cons (by simpa using h)]
  simp [h]
theorem wv_set {ws : List Int} {i : Nat} {v : Int} (h : i < ws.length) : (ws.map wv).take i ++ AV.d (.v (.int .u32 v)) :: (ws.map wv).drop (i + 1) = (ws.set i v).map wv := by
  rw [List.map_set, List.set_eq_take_append_cons_drop, if_pos (by simpa using h)]

theorem MemAt.set {H : List ABlk} {pb wb : Nat} {ws : List Int} (hm : MemAt H pb wb ws) (i : Nat) (v : Int) (h0 : 0 ≤ v) (h1 : v < 4294967296) : MemAt (H.set wb (.cells ((ws.set i v).map wv))) pb wb (ws.set i v) := by
  have hne : pb ≠ wb := fun e => by
    have := hm.p
    rw [e, hm.w] at this
    cases ws with
    | nil => simp at this
    | cons x l => simp at this
  refine ⟨?_, ?_, by simpa using hm.len, fun x hx => ?_⟩
  · rw [List.getElem?_set_ne hne.symm, hm.p]; simp
  · rw [List.getElem?_set_self (List.getElem?_eq_some_iff.1 hm.w).1]
  · rcases List.mem_or_eq_of_mem_set hx with hx | rfl
    · exact hm.rng x hx
    · exact ⟨h0, h1⟩

theorem word_c {H : List ABlk} {pb wb : Nat} {ws : List Int} (hm : MemAt H pb wb ws) (at' : Int) (h0 : 0 ≤ at') (h1 : at' < 4294967296) : ACalls Tryz.prog 66 [.ptr pb 0, wv at'] H fun v H' => v = (if at' / 4 < ws.length then .ptr wb (at' / 4).toNat else .nilp) ∧ H' = H := by
  refine ACalls.into Tryz.func66 cc66 rr66 fun hcl => ?_
  simp (maxSteps := 2000000) (disch := omega) only [Tryz.ntmps66, c66, r66, hm.p, go_sem, seval, eq_self, if_true, if_false, reduceCtorEq]
  refine Cont.mk (size_c hm) ?_
  simp (maxSteps := 2000000) (disch := omega) only [go_sem, seval, eq_self, if_true, if_false, reduceCtorEq]
  refine Br.dec (fun h => ?_) (fun h => ?_) <;> simp (maxSteps := 2000000) (disch := omega) only [hm.p, go_sem, seval, eq_self, if_true, if_false, reduceCtorEq]
  · exact Ret.keep ⟨rfl, rfl⟩
  · exact Ret.keep ⟨rfl, rfl⟩

def ldF (ws : List Int) (at' : Int) : Int × Bool := if at' % 4 = 0 ∧ at' / 4 < ws.length then (ws.getD (at' / 4).toNat 0, true) else (0, false)
def thereF (ws : List Int) (at' : Int) : Bool := decide (at' / 4 < ws.length)

theorem load_c {H : List ABlk} {pb wb : Nat} {ws : List Int} (hm : MemAt H pb wb ws) (at' : Int) (h0 : 0 ≤ at') (h1 : at' < 4294967296) : ACalls Tryz.prog 41 [.ptr pb 0, wv at'] H fun v H' => v = .tup [wv (ldF ws at').1, bv (ldF ws at').2] ∧ H' = H := by
  refine ACalls.into Tryz.func41 cc41 rr41 fun hcl => ?_
  simp (maxSteps := 2000000) (disch := omega) only [Tryz.ntmps41, c41, r41, go_sem, seval, eq_self, if_true, if_false, reduceCtorEq]
  refine Cont.mk (word_c hm at' h0 h1) ?_
  have hw := hm.w
  by_cases h : at' / 4 < ws.length
  · have hlt : (at' / 4).toNat < ws.length := by omega
    simp (maxSteps := 2000000) (disch := omega) only [hw, wv_get1, List.length_map, go_sem, seval, eq_self, if_true, if_false, reduceCtorEq]
    refine Br.dec (fun h2 => ?_) (fun h2 => ?_) <;> simp (maxSteps := 2000000) (disch := omega) only [hw, wv_get1, List.length_map, go_sem, seval, eq_self, if_true, if_false, reduceCtorEq]
    · exact Ret.keep ⟨by rw [ldF, if_pos (by omega)], rfl⟩
    · exact Ret.keep ⟨by rw [ldF, if_neg (by omega)], rfl⟩
  · simp (maxSteps := 2000000) (disch := omega) only [go_sem, seval, eq_self, if_true, if_false, reduceCtorEq]
    exact Ret.keep ⟨by rw [ldF, if_neg (by omega)], rfl⟩

def byF (ws : List Int) (at' : Int) : Int × Bool := if at' / 4 < ws.length then ((ws.getD (at' / 4).toNat 0 / 2 ^ (8 * (at' % 4)).toNat) % 256, true) else (0, false)
theorem byte_c {H : List ABlk} {pb wb : Nat} {ws : List Int} (hm : MemAt H pb wb ws) (at' : Int) (h0 : 0 ≤ at') (h1 : at' < 4294967296) : ACalls Tryz.prog 68 [.ptr pb 0, wv at'] H fun v H' => v = .tup [wv (byF ws at').1, bv (byF ws at').2] ∧ H' = H := by
  refine ACalls.into Tryz.func68 cc68 rr68 fun hcl => ?_
  simp (maxSteps := 2000000) (disch := omega) only [Tryz.ntmps68, c68, r68, go_sem, seval, eq_self, if_true, if_false, reduceCtorEq]
  refine Cont.mk (word_c hm at' h0 h1) ?_
  have hw := hm.w
  by_cases h : at' / 4 < ws.length
  · have hlt : (at' / 4).toNat < ws.length := by omega
    simp (maxSteps := 2000000) (disch := omega) only [hw, wv_get1, List.length_map, go_sem, seval, eq_self, if_true, if_false, reduceCtorEq]
    exact Ret.keep ⟨by rw [byF, if_pos (by omega)], rfl⟩
  · simp (maxSteps := 2000000) (disch := omega) only [go_sem, seval, eq_self, if_true, if_false, reduceCtorEq]
    exact Ret.keep ⟨by rw [byF, if_neg (by omega)], rfl⟩

def stF (ws : List Int) (at' v : Int) : List Int := if at' % 4 = 0 ∧ at' / 4 < ws.length then ws.set (at' / 4).toNat v else ws
def okF (ws : List Int) (at' : Int) : Bool := decide (at' % 4 = 0 ∧ at' / 4 < ws.length)
theorem set_same {H : List ABlk} {b : Nat} {k : ABlk} (h : H[b]? = some k) : H.set b k = H := set_self h
theorem store_c {H : List ABlk} {pb wb : Nat} {ws : List Int} (hm : MemAt H pb wb ws) (at' x : Int) (h0 : 0 ≤ at') (h1 : at' < 4294967296) : ACalls Tryz.prog 106 [.ptr pb 0, wv at', wv x] H fun v H' => v = bv (okF ws at') ∧ H' = H.set wb (.cells ((stF ws at' x).map wv)) := by
  refine ACalls.into Tryz.func106 cc106 rr106 fun hcl => ?_
  simp (maxSteps := 2000000) (disch := omega) only [Tryz.ntmps106, c106, r106, go_sem, seval, eq_self, if_true, if_false, reduceCtorEq]
  refine Cont.mk (word_c hm at' h0 h1) ?_
  have hw := hm.w
  by_cases h : at' / 4 < ws.length
  · have hlt : (at' / 4).toNat < ws.length := by omega
    simp (maxSteps := 2000000) (disch := omega) only [go_sem, seval, eq_self, if_true, if_false, reduceCtorEq]
    refine Br.dec (fun h2 => ?_) (fun h2 => ?_) <;> simp (maxSteps := 2000000) (disch := omega) only [hw, wv_set, List.length_map, go_sem, seval, eq_self, if_true, if_false, reduceCtorEq]
    · exact Ret.keep ⟨by rw [okF, decide_eq_true (by omega)], by rw [stF, if_pos (by omega)]⟩
    · exact Ret.keep ⟨by rw [okF, decide_eq_false (by omega)], by rw [stF, if_neg (by omega), set_same hw]⟩
  · simp (maxSteps := 2000000) (disch := omega) only [go_sem, seval, eq_self, if_true, if_false, reduceCtorEq]
    exact Ret.keep ⟨by rw [okF, decide_eq_false (by omega)], by rw [stF, if_neg (by omega), set_same hw]⟩

/-- What PutByte makes of a word. -/
def mixA (w at' x : Int) : Int :=
  ((BitVec.ofInt 32 (((BitVec.ofInt 32 w &&& ~~~ BitVec.ofInt 32 (255 * 2 ^ (8 * (at' % 4)).toNat % 4294967296)).toNat : Int) % 4294967296) ||| BitVec.ofInt 32 (x % 256 * 2 ^ (8 * (at' % 4)).toNat % 4294967296)).toNat : Int) % 4294967296
theorem mixA_e (w at' x : Int) : mixA w at' x = ((BitVec.ofInt 32 (((BitVec.ofInt 32 w &&& ~~~ BitVec.ofInt 32 (255 * 2 ^ (8 * (at' % 4)).toNat % 4294967296)).toNat : Int)) ||| BitVec.ofInt 32 (x % 256 * 2 ^ (8 * (at' % 4)).toNat % 4294967296)).toNat : Int) := by
  have hb : ∀ b : BitVec 32, ((b.toNat : Nat) : Int) % 4294967296 = (b.toNat : Nat) := fun b => by have := b.isLt; omega
  rw [mixA, hb, hb]
theorem mixA_rng (w at' x : Int) : 0 ≤ mixA w at' x ∧ mixA w at' x < 4294967296 := by unfold mixA; omega
def pbF (ws : List Int) (at' x : Int) : List Int := if at' / 4 < ws.length then ws.set (at' / 4).toNat (mixA (ws.getD (at' / 4).toNat 0) at' x) else ws
theorem put_c {H : List ABlk} {pb wb : Nat} {ws : List Int} (hm : MemAt H pb wb ws) (at' x : Int) (h0 : 0 ≤ at') (h1 : at' < 4294967296) : ACalls Tryz.prog 105 [.ptr pb 0, wv at', wv x] H fun v H' => v = bv (thereF ws at') ∧ H' = H.set wb (.cells ((pbF ws at' x).map wv)) := by
  refine ACalls.into Tryz.func105 cc105 rr105 fun hcl => ?_
  simp (maxSteps := 2000000) (disch := omega) only [Tryz.ntmps105, c105, r105, go_sem, seval, eq_self, if_true, if_false, reduceCtorEq]
  refine Cont.mk (word_c hm at' h0 h1) ?_
  have hw := hm.w
  by_cases h : at' / 4 < ws.length
  · have hlt : (at' / 4).toNat < ws.length := by omega
    simp (maxSteps := 2000000) (disch := omega) only [hw, wv_get1, wv_set, List.length_map, go_sem, seval, eq_self, if_true, if_false, reduceCtorEq]
    refine Ret.keep ⟨by rw [thereF, decide_eq_true (by omega)], ?_⟩
    rw [pbF, if_pos (by omega)]
    first | (rw [mixA]; rfl) | (rw [mixA_e]; rfl)
  · simp (maxSteps := 2000000) (disch := omega) only [go_sem, seval, eq_self, if_true, if_false, reduceCtorEq]
    exact Ret.keep ⟨by rw [thereF, decide_eq_false (by omega)], by rw [pbF, if_neg (by omega), set_same hw]⟩
end Go.Proofs.YtmgmoamcbnkbfaaGreatDoor
