/- A new memory. -/
import Derived.Test.YtmgmoamcbnkbfaaGreatDoorYM1
set_option linter.unusedVariables false
set_option linter.unusedSimpArgs false
set_option linter.unusedSectionVars false
namespace Go.Proofs.YtmgmoamcbnkbfaaGreatDoor
set_option linter.unusedSimpArgs false
set_option linter.unusedVariables false
set_option maxRecDepth 20000
set_option maxHeartbeats 4000000
open Go.RowKit

abbrev ud (n : Int) : List Dat := [.v (.int .u32 n)]
theorem flat_ud (ws : List Int) : ((ws.map ud).flatten.map AV.d) = ws.map wv := by
  induction ws with
  | nil => rfl
  | cons w ws ih => simp only [List.map_cons, List.flatten_cons, List.map_append, ih]; rfl
theorem all1_ud (ws : List Int) : ((ws.map ud).all fun e => e.length == 1) = true := by simp
theorem flen_ud (ws : List Int) : (ws.map ud).flatten.length = ws.length := by
  induction ws with
  | nil => rfl
  | cons w ws ih => simp only [List.map_cons, List.flatten_cons, List.length_append, ih, List.length_cons, List.length_nil]; omega
theorem rep1 (n : Nat) (x : AV) : (List.replicate n [x]).flatten = List.replicate n x := List.flatten_replicate_singleton
theorem drop_rep (n : Nat) (x : AV) : List.drop n (List.replicate n x) = [] := by simp
abbrev memB (H : List ABlk) (ws : List Int) : List ABlk := [.cells (ws.map wv), .cells [.hsl H.length 0 ws.length ws.length 1]]
theorem new_c {ws : List Int} (hl : ws.length ≤ 65536) (H : List ABlk) : ACalls Tryz.prog 21 [.d (.sl (ws.map ud))] H fun v H' => v = .tup [.ptr (H.length + 1) 0, iv 0] ∧ H' = H ++ memB H ws := by
  refine ACalls.into Tryz.func21 cc21 rr21 fun hcl => ?_
  have he : ∀ l, elemsA (H ++ l) 1 (.d (.sl (ws.map ud))) = some ((ws.map ud).map (·.map .d)) := fun l => by simp [elemsA]
  have hdd := datss_map_d (ws.map ud)
  simp (maxSteps := 2000000) (disch := omega) only [Tryz.ntmps21, c21, r21, he, hdd, List.length_map, all1_ud, flat_ud, flen_ud, rep1, drop_rep, List.length_replicate, go_sem, seval, eq_self, if_true, if_false, reduceCtorEq]
  exact Ret.keep ⟨rfl, rfl⟩
end Go.Proofs.YtmgmoamcbnkbfaaGreatDoor

/- Small functions of words. -/
namespace Go.Proofs.YtmgmoamcbnkbfaaGreatDoor
set_option linter.unusedSimpArgs false
set_option linter.unusedVariables false
set_option maxRecDepth 20000
set_option maxHeartbeats 400000
open Go.RowKit

theorem FrOk.put {w : List Nat} {H l l' : List ABlk} (k : Nat) (x : ABlk) (hw : H.length + k ∈ w) (h : l' = l.set k x) : FrOk w [] (H ++ l) (H ++ l') (H ++ l') := by
  subst h
  have e : H ++ l.set k x = (H ++ l).set (H.length + k) x := by rw [List.set_append_right _ _ (by omega), Nat.add_sub_cancel_left]
  rw [e]
  exact .set hw
theorem decf {p : Prop} {i : Decidable p} (h : ¬ p) : decide p = false := decide_eq_false h
theorem dect {p : Prop} {i : Decidable p} (h : p) : decide p = true := decide_eq_true h
theorem dec2 {p q : Prop} {i : Decidable p} {j : Decidable q} (h : p ↔ q) : bv (decide p) = bv (decide q) := congrArg bv (decide_eq_decide.2 h)
def hf4 (x : Int) : Bool := decide (0 ≤ x ∧ x < 16)
def hf16 (x : Int) : Bool := decide (0 ≤ x ∧ x < 65536)
theorem half4_c (x : Int) (H : List ABlk) : ACalls Tryz.prog 121 [iv x, iv 4] H fun v H' => v = bv (hf4 x) ∧ H' = H := by
  refine ACalls.into Tryz.func121 cc121 rr121 fun hcl => ?_
  by_cases h0 : 0 ≤ x
  · simp (maxSteps := 2000000) (disch := omega) only [Tryz.ntmps121, c121, r121, go_sem, seval, eq_self, if_true, if_false, reduceCtorEq]
    exact Ret.keep ⟨dec2 ⟨fun h => ⟨h0, h⟩, fun h => h.2⟩, rfl⟩
  · simp (maxSteps := 2000000) (disch := omega) only [Tryz.ntmps121, c121, r121, go_sem, seval, eq_self, if_true, if_false, reduceCtorEq]
    exact Ret.keep ⟨congrArg bv (Eq.symm (decide_eq_false fun h => h0 h.1)), rfl⟩
theorem half16_c (x : Int) (H : List ABlk) : ACalls Tryz.prog 121 [iv x, iv 16] H fun v H' => v = bv (hf16 x) ∧ H' = H := by
  refine ACalls.into Tryz.func121 cc121 rr121 fun hcl => ?_
  by_cases h0 : 0 ≤ x
  · simp (maxSteps := 2000000) (disch := omega) only [Tryz.ntmps121, c121, r121, go_sem, seval, eq_self, if_true, if_false, reduceCtorEq]
    exact Ret.keep ⟨dec2 ⟨fun h => ⟨h0, h⟩, fun h => h.2⟩, rfl⟩
  · simp (maxSteps := 2000000) (disch := omega) only [Tryz.ntmps121, c121, r121, go_sem, seval, eq_self, if_true, if_false, reduceCtorEq]
    exact Ret.keep ⟨congrArg bv (Eq.symm (decide_eq_false fun h => h0 h.1)), rfl⟩
def ft20 (x : Int) : Bool := decide (-524288 ≤ x ∧ x < 524288)
def ft24 (x : Int) : Bool := decide (-8388608 ≤ x ∧ x < 8388608)
theorem fits20_d (x : Int) (H : List ABlk) (h0 : -524288 ≤ x) : ACalls Tryz.prog 122 [iv x, iv 20] H fun v H' => v = bv (ft20 x) ∧ H' = H := by
  refine ACalls.into Tryz.func122 cc122 rr122 fun hcl => ?_
  simp (maxSteps := 2000000) (disch := omega) only [Tryz.ntmps122, c122, r122, go_sem, seval, eq_self, if_true, if_false, reduceCtorEq]
  refine Ret.keep ⟨?_, rfl⟩
  refine dec2 ?_
  exact ⟨fun h => ⟨h0, h⟩, fun h => h.2⟩
theorem fits20_e (x : Int) (H : List ABlk) (h0 : ¬ -524288 ≤ x) : ACalls Tryz.prog 122 [iv x, iv 20] H fun v H' => v = bv (ft20 x) ∧ H' = H := by
  refine ACalls.into Tryz.func122 cc122 rr122 fun hcl => ?_
  simp (maxSteps := 2000000) (disch := omega) only [Tryz.ntmps122, c122, r122, go_sem, seval, eq_self, if_true, if_false, reduceCtorEq]
  refine Ret.keep ⟨?_, rfl⟩
  exact congrArg bv (Eq.symm (decide_eq_false fun h => h0 h.1))
theorem fits20_c (x : Int) (H : List ABlk) : ACalls Tryz.prog 122 [iv x, iv 20] H fun v H' => v = bv (ft20 x) ∧ H' = H :=
  (Classical.em (-524288 ≤ x)).elim (fits20_d x H) (fits20_e x H)
theorem fits24_d (x : Int) (H : List ABlk) (h0 : -8388608 ≤ x) : ACalls Tryz.prog 122 [iv x, iv 24] H fun v H' => v = bv (ft24 x) ∧ H' = H := by
  refine ACalls.into Tryz.func122 cc122 rr122 fun hcl => ?_
  simp (maxSteps := 2000000) (disch := omega) only [Tryz.ntmps122, c122, r122, go_sem, seval, eq_self, if_true, if_false, reduceCtorEq]
  refine Ret.keep ⟨?_, rfl⟩
  refine dec2 ?_
  exact ⟨fun h => ⟨h0, h⟩, fun h => h.2⟩
theorem fits24_e (x : Int) (H : List ABlk) (h0 : ¬ -8388608 ≤ x) : ACalls Tryz.prog 122 [iv x, iv 24] H fun v H' => v = bv (ft24 x) ∧ H' = H := by
  refine ACalls.into Tryz.func122 cc122 rr122 fun hcl => ?_
  simp (maxSteps := 2000000) (disch := omega) only [Tryz.ntmps122, c122, r122, go_sem, seval, eq_self, if_true, if_false, reduceCtorEq]
  refine Ret.keep ⟨?_, rfl⟩
  exact congrArg bv (Eq.symm (decide_eq_false fun h => h0 h.1))
theorem fits24_c (x : Int) (H : List ABlk) : ACalls Tryz.prog 122 [iv x, iv 24] H fun v H' => v = bv (ft24 x) ∧ H' = H :=
  (Classical.em (-8388608 ≤ x)).elim (fits24_d x H) (fits24_e x H)
def bitU (b : Bool) : Int := if b then 536870912 else 0
def bitV (b : Bool) : Int := if b then 268435456 else 0
theorem bit29_c (b : Bool) (H : List ABlk) : ACalls Tryz.prog 87 [bv b, iv 29] H fun v H' => v = wv (bitU b) ∧ H' = H := by
  refine ACalls.into Tryz.func87 cc87 rr87 fun hcl => ?_
  cases b <;> (
    simp (maxSteps := 2000000) (disch := omega) only [Tryz.ntmps87, c87, r87, go_sem, seval, eq_self, if_true, if_false, reduceCtorEq]
    exact Ret.keep ⟨rfl, rfl⟩)
theorem bit28_c (b : Bool) (H : List ABlk) : ACalls Tryz.prog 87 [bv b, iv 28] H fun v H' => v = wv (bitV b) ∧ H' = H := by
  refine ACalls.into Tryz.func87 cc87 rr87 fun hcl => ?_
  cases b <;> (
    simp (maxSteps := 2000000) (disch := omega) only [Tryz.ntmps87, c87, r87, go_sem, seval, eq_self, if_true, if_false, reduceCtorEq]
    exact Ret.keep ⟨rfl, rfl⟩)
theorem inside_c (lo n : Int) (h0 : 0 ≤ lo) (h1 : 1 ≤ n) (h2 : lo + n ≤ 32) (H : List ABlk) : ACalls Tryz.prog 94 [iv lo, iv n] H fun v H' => v = bv true ∧ H' = H := by
  refine ACalls.into Tryz.func94 cc94 rr94 fun hcl => ?_
  simp (maxSteps := 2000000) (disch := omega) only [Tryz.ntmps94, c94, r94, go_sem, seval, eq_self, if_true, if_false, reduceCtorEq]
  exact Ret.keep ⟨rfl, rfl⟩
theorem mask4_c (H : List ABlk) : ACalls Tryz.prog 95 [iv 4] H fun v H' => v = wv 15 ∧ H' = H := by
  refine ACalls.into Tryz.func95 cc95 rr95 fun hcl => ?_
  simp (maxSteps := 2000000) (disch := omega) only [Tryz.ntmps95, c95, r95, go_sem, seval, eq_self, if_true, if_false, reduceCtorEq]
  exact Ret.keep ⟨rfl, rfl⟩
theorem mask1_c (H : List ABlk) : ACalls Tryz.prog 95 [iv 1] H fun v H' => v = wv 1 ∧ H' = H := by
  refine ACalls.into Tryz.func95 cc95 rr95 fun hcl => ?_
  simp (maxSteps := 2000000) (disch := omega) only [Tryz.ntmps95, c95, r95, go_sem, seval, eq_self, if_true, if_false, reduceCtorEq]
  exact Ret.keep ⟨rfl, rfl⟩
/-- The lowest four bits. -/
theorem bvmod (b : BitVec 32) : ((b.toNat : Nat) : Int) % 4294967296 = (b.toNat : Nat) := by have := b.isLt; omega
def g4 (q : Int) : Int := ((BitVec.ofInt 32 q &&& BitVec.ofInt 32 15).toNat : Int) % 4294967296
theorem g4_rng (q : Int) : 0 ≤ g4 q ∧ g4 q < 16 := by
  unfold g4
  rw [BitVec.toNat_and]
  have : (BitVec.ofInt 32 q).toNat &&& (BitVec.ofInt 32 15).toNat ≤ (BitVec.ofInt 32 15).toNat := Nat.and_le_right
  have e : (BitVec.ofInt 32 15).toNat = 15 := by decide
  rw [e] at this ⊢
  omega
theorem get_c (w lo d : Int) (w0 : 0 ≤ w) (w1 : w < 4294967296) (hlo : (lo = 16 ∧ d = 65536) ∨ (lo = 20 ∧ d = 1048576) ∨ (lo = 24 ∧ d = 16777216)) (H : List ABlk) : ACalls Tryz.prog 58 [wv w, iv lo, iv 4] H fun v H' => v = wv (g4 (w / d)) ∧ H' = H := by
  refine ACalls.into Tryz.func58 cc58 rr58 fun hcl => ?_
  rcases hlo with ⟨rfl, rfl⟩ | ⟨rfl, rfl⟩ | ⟨rfl, rfl⟩ <;> (
    simp (maxSteps := 2000000) (disch := omega) only [Tryz.ntmps58, c58, r58, go_sem, seval, eq_self, if_true, if_false, reduceCtorEq]
    refine Cont.mk (inside_c _ _ (by decide) (by decide) (by decide) _) ?_
    simp (maxSteps := 2000000) (disch := omega) only [go_sem, seval, eq_self, if_true, if_false, reduceCtorEq]
    refine W.pchain follows (by decide +kernel) ?_
    simp (maxSteps := 2000000) (disch := omega) only [go_sem, seval, eq_self, if_true, if_false, reduceCtorEq]
    refine PCont.mk (mask4_c _) ?_
    simp (maxSteps := 2000000) (disch := omega) only [go_sem, seval, eq_self, if_true, if_false, reduceCtorEq]
    exact Ret.keep ⟨by first | rfl | (rw [g4, bvmod]; rfl), rfl⟩)
end Go.Proofs.YtmgmoamcbnkbfaaGreatDoor

/- risc.Good. -/
namespace Go.Proofs.YtmgmoamcbnkbfaaGreatDoor
set_option linter.unusedSimpArgs false
set_option linter.unusedVariables false
set_option maxRecDepth 20000
set_option maxHeartbeats 1000000
open Go.RowKit

/-- An instruction. -/
structure In where
  f : Int
  u : Bool
  v : Bool
  a : Int
  b : Int
  c : Int
  op : Int
  im : Int
abbrev In.cs (x : In) : List AV := [iv x.f, bv x.u, bv x.v, iv x.a, iv x.b, iv x.c, iv x.op, iv x.im]
abbrev In.av (x : In) : AV := .agg x.cs
def k1B (x : In) : Bool := hf4 x.a && if x.f = 0 then !x.v || (x.u && decide (x.op = 0)) else if x.f = 1 then hf16 x.im else if x.f = 2 then ft20 x.im else ft24 x.im
def k2B (x : In) : Bool := k1B x && (!x.u || decide (2 ≤ x.f) || decide (x.op = 0) || (decide (8 ≤ x.op) && decide (x.op ≤ 10)))
/-- What it has. -/
def In.y (x : In) : In :=
  if x.f = 0 then ⟨x.f, x.u, x.v, x.a, x.b, x.c, x.op, 0⟩ else if x.f = 1 then ⟨x.f, x.u, x.v, x.a, x.b, 0, x.op, x.im⟩ else if x.f = 2 then ⟨x.f, x.u, x.v, x.a, x.b, 0, 0, x.im⟩
  else if x.u then ⟨x.f, x.u, x.v, x.a, 0, 0, 0, x.im⟩ else ⟨x.f, x.u, x.v, x.a, 0, x.c, 0, 0⟩
def gdB (x : In) : Bool := k2B x && hf4 x.b && hf4 x.c && decide (0 ≤ x.op) && decide (x.op ≤ 11) && (decide (x.b = x.y.b) && decide (x.c = x.y.c) && decide (x.op = x.y.op) && decide (x.im = x.y.im))
abbrev inV (f : Int) (u v : Bool) (a b c op im : Int) : Value := .agg #[.int .i64 f, .bool u, .bool v, .int .i64 a, .int .i64 b, .int .i64 c, .int .i64 op, .int .i64 im]
theorem key_in (f : Int) (u v : Bool) (a b c op im : Int) : keyOf (.agg [iv f, bv u, bv v, iv a, iv b, iv c, iv op, iv im]) = some (inV f u v a b c op im) := rfl
abbrev J64 (n : Int) : Prop := -9223372036854775808 ≤ n ∧ n ≤ 9223372036854775807
theorem fits_in {f : Int} {u v : Bool} {a b c op im : Int} (h0 : J64 f) (h1 : J64 a) (h2 : J64 b) (h3 : J64 c) (h4 : J64 op) (h5 : J64 im) :
    keyFits ⟨true, [.i .i64, .b, .b, .i .i64, .i .i64, .i .i64, .i .i64, .i .i64]⟩ (inV f u v a b c op im) = true := by
  simp [keyFits, fitL, kcFit, IntKind.min, IntKind.max, IntKind.signed, IntKind.bits, h0.1, h0.2, h1.1, h1.2, h2.1, h2.2, h3.1, h3.2, h4.1, h4.2, h5.1, h5.2]
theorem keq_in (f : Int) (u v : Bool) (a b c op im b' c' op' im' : Int) : keq (inV f u v a b c op im) (inV f u v a b' c' op' im') = (decide (b = b') && decide (c = c') && decide (op = op') && decide (im = im')) := by
  simp [keq, keqL, keq1, Bool.and_assoc, Bool.beq_eq_decide_eq]
theorem good_c (x : In) (hf : x.f = 0 ∨ x.f = 1 ∨ x.f = 2 ∨ x.f = 3) (hI : J64 x.a ∧ J64 x.b ∧ J64 x.c ∧ J64 x.op ∧ J64 x.im) (H : List ABlk) : ACalls Tryz.prog 86 [x.av] H fun v H' => v = bv (gdB x) ∧ H' = H := by
  obtain ⟨f, u, v, a, b, c, op, im⟩ := x
  simp only at hf hI
  refine ACalls.enter Tryz.func86 cc86 rr86 fun hcl => ?_
  simp only [Tryz.ntmps86, c86, r86]
  refine W.seq_reg ?_
  simp (maxSteps := 2000000) (disch := omega) only [go_sem, seval, eq_self, if_true, if_false, reduceCtorEq]
  refine W.seq_reg ?_
  simp (maxSteps := 2000000) (disch := omega) only [go_sem, seval, eq_self, if_true, if_false, reduceCtorEq]
  refine W.seq_reg ?_
  simp (maxSteps := 2000000) (disch := omega) only [go_sem, seval, eq_self, if_true, if_false, reduceCtorEq]
  refine Cont.mk (half4_c a _) ?_
  simp (maxSteps := 2000000) (disch := omega) only [go_sem, seval, eq_self, if_true, if_false, reduceCtorEq]
  refine W.cut (fun s H' => s = [.any, .ptr H.length 0, bv false, .ptr (H.length + 1) 0, bv (k1B ⟨f, u, v, a, b, c, op, im⟩)] ++ List.replicate 141 .any ∧ H' = H ++ [.cells (In.mk f u v a b c op im).cs, .cells (In.mk f u v a b c op im).y.cs]) (wpA.W ?_) ?_
  · obtain ⟨A, hA⟩ : ∃ A, A = hf4 a := ⟨_, rfl⟩
    rcases hf with rfl | rfl | rfl | rfl
    · have hk : k1B ⟨0, u, v, a, b, c, op, im⟩ = (A && (!v || (u && decide (op = 0)))) := by rw [hA]; rfl
      rw [hk, ← hA]
      clear hk hA
      simp (maxSteps := 2000000) (disch := omega) only [go_sem, seval, eq_self, if_true, if_false, reduceCtorEq]
      refine W.dregD [([], []), ([], []), ([], [H.length + 1]), ([], [H.length + 1]), ([], [H.length + 1, H.length + 1]), ([], [H.length + 1, H.length + 1]), ([], []), ([H.length + 1], []), ([], []), ([H.length + 1], []), ([], []), ([H.length + 1], [])] follows (by decide +kernel) rfl rfl (fun z hz b' hb' => ?_) ?_
      · simp only [List.mem_cons, List.not_mem_nil, or_false] at hz
        rcases hz with rfl | rfl | rfl | rfl | rfl | rfl | rfl | rfl | rfl | rfl | rfl | rfl <;> simp at hb' <;> subst hb' <;> exact ⟨by simp, by simp⟩
      repeat (rw [DC_p]; simp (maxSteps := 2000000) (disch := omega) only [kill_c, go_sem, seval, eq_self, if_true, if_false, reduceCtorEq])
      refine WStep.ev (by simp) (by simp) ?_
      simp (maxSteps := 2000000) (disch := omega) only [go_sem, seval, eq_self, if_true, if_false, reduceCtorEq]
      refine ⟨FrOk.put 1 _ (by simp) rfl, ?_⟩
      repeat (rw [DC_p]; simp (maxSteps := 2000000) (disch := omega) only [kill_c, go_sem, seval, eq_self, if_true, if_false, reduceCtorEq])
      refine WStep.ev (by simp) (by simp) ?_
      simp (maxSteps := 2000000) (disch := omega) only [go_sem, seval, eq_self, if_true, if_false, reduceCtorEq]
      refine ⟨FrOk.put 1 _ (by simp) rfl, ?_⟩
      repeat (rw [DC_p]; simp (maxSteps := 2000000) (disch := omega) only [kill_c, go_sem, seval, eq_self, if_true, if_false, reduceCtorEq])
      refine WStep.ev (by simp) (by simp) ?_
      simp (maxSteps := 2000000) (disch := omega) only [go_sem, seval, eq_self, if_true, if_false, reduceCtorEq]
      refine ⟨FrOk.put 1 _ (by simp) rfl, ?_⟩
      repeat (rw [DC_p]; simp (maxSteps := 2000000) (disch := omega) only [kill_c, go_sem, seval, eq_self, if_true, if_false, reduceCtorEq])
      cases A
      · simp (maxSteps := 2000000) (disch := omega) only [go_sem, seval, eq_self, if_true, if_false, reduceCtorEq]
        exact ⟨_, _, Wk.slots (by (try simp only [List.replicate, List.cons_append, List.nil_append]); repeat' first | exact WkL.nil | refine WkL.cons (Wk1.rfl _) ?_ | refine WkL.cons Wk1.esl ?_ | refine WkL.cons (Wk1.gsl _ _ _) ?_ | refine WkL.cons (Wk1.any _) ?_), rfl, rfl⟩
      cases v
      · simp (maxSteps := 2000000) (disch := omega) only [go_sem, seval, eq_self, if_true, if_false, reduceCtorEq]
        exact ⟨_, _, Wk.slots (by (try simp only [List.replicate, List.cons_append, List.nil_append]); repeat' first | exact WkL.nil | refine WkL.cons (Wk1.rfl _) ?_ | refine WkL.cons Wk1.esl ?_ | refine WkL.cons (Wk1.gsl _ _ _) ?_ | refine WkL.cons (Wk1.any _) ?_), rfl, rfl⟩
      cases u
      · simp (maxSteps := 2000000) (disch := omega) only [go_sem, seval, eq_self, if_true, if_false, reduceCtorEq]
        exact ⟨_, _, Wk.slots (by (try simp only [List.replicate, List.cons_append, List.nil_append]); repeat' first | exact WkL.nil | refine WkL.cons (Wk1.rfl _) ?_ | refine WkL.cons Wk1.esl ?_ | refine WkL.cons (Wk1.gsl _ _ _) ?_ | refine WkL.cons (Wk1.any _) ?_), rfl, rfl⟩
      by_cases h : op = 0
      · rw [dect h]
        simp (maxSteps := 2000000) (disch := omega) only [go_sem, seval, eq_self, if_true, if_false, reduceCtorEq]
        exact ⟨_, _, Wk.slots (by (try simp only [List.replicate, List.cons_append, List.nil_append]); repeat' first | exact WkL.nil | refine WkL.cons (Wk1.rfl _) ?_ | refine WkL.cons Wk1.esl ?_ | refine WkL.cons (Wk1.gsl _ _ _) ?_ | refine WkL.cons (Wk1.any _) ?_), rfl, rfl⟩
      · rw [decf h]
        simp (maxSteps := 2000000) (disch := omega) only [go_sem, seval, eq_self, if_true, if_false, reduceCtorEq]
        exact ⟨_, _, Wk.slots (by (try simp only [List.replicate, List.cons_append, List.nil_append]); repeat' first | exact WkL.nil | refine WkL.cons (Wk1.rfl _) ?_ | refine WkL.cons Wk1.esl ?_ | refine WkL.cons (Wk1.gsl _ _ _) ?_ | refine WkL.cons (Wk1.any _) ?_), rfl, rfl⟩
    · have hk : k1B ⟨1, u, v, a, b, c, op, im⟩ = (A && hf16 im) := by rw [hA]; rfl
      rw [hk, ← hA]
      clear hk hA
      simp (maxSteps := 2000000) (disch := omega) only [go_sem, seval, eq_self, if_true, if_false, reduceCtorEq]
      refine W.dregD [([], []), ([], []), ([], [H.length + 1]), ([], [H.length + 1]), ([], [H.length + 1, H.length + 1]), ([], [H.length + 1, H.length + 1]), ([], []), ([H.length + 1], []), ([], []), ([H.length + 1], []), ([], []), ([H.length + 1], [])] follows (by decide +kernel) rfl rfl (fun z hz b' hb' => ?_) ?_
      · simp only [List.mem_cons, List.not_mem_nil, or_false] at hz
        rcases hz with rfl | rfl | rfl | rfl | rfl | rfl | rfl | rfl | rfl | rfl | rfl | rfl <;> simp at hb' <;> subst hb' <;> exact ⟨by simp, by simp⟩
      repeat (rw [DC_p]; simp (maxSteps := 2000000) (disch := omega) only [kill_c, go_sem, seval, eq_self, if_true, if_false, reduceCtorEq])
      refine WStep.ev (by simp) (by simp) ?_
      simp (maxSteps := 2000000) (disch := omega) only [go_sem, seval, eq_self, if_true, if_false, reduceCtorEq]
      refine ⟨FrOk.put 1 _ (by simp) rfl, ?_⟩
      repeat (rw [DC_p]; simp (maxSteps := 2000000) (disch := omega) only [kill_c, go_sem, seval, eq_self, if_true, if_false, reduceCtorEq])
      refine WStep.ev (by simp) (by simp) ?_
      simp (maxSteps := 2000000) (disch := omega) only [go_sem, seval, eq_self, if_true, if_false, reduceCtorEq]
      refine ⟨FrOk.put 1 _ (by simp) rfl, ?_⟩
      repeat (rw [DC_p]; simp (maxSteps := 2000000) (disch := omega) only [kill_c, go_sem, seval, eq_self, if_true, if_false, reduceCtorEq])
      refine WStep.ev (by simp) (by simp) ?_
      simp (maxSteps := 2000000) (disch := omega) only [go_sem, seval, eq_self, if_true, if_false, reduceCtorEq]
      refine ⟨FrOk.put 1 _ (by simp) rfl, ?_⟩
      repeat (rw [DC_p]; simp (maxSteps := 2000000) (disch := omega) only [kill_c, go_sem, seval, eq_self, if_true, if_false, reduceCtorEq])
      cases A
      · simp (maxSteps := 2000000) (disch := omega) only [go_sem, seval, eq_self, if_true, if_false, reduceCtorEq]
        exact ⟨_, _, Wk.slots (by (try simp only [List.replicate, List.cons_append, List.nil_append]); repeat' first | exact WkL.nil | refine WkL.cons (Wk1.rfl _) ?_ | refine WkL.cons Wk1.esl ?_ | refine WkL.cons (Wk1.gsl _ _ _) ?_ | refine WkL.cons (Wk1.any _) ?_), rfl, rfl⟩
      simp (maxSteps := 2000000) (disch := omega) only [go_sem, seval, eq_self, if_true, if_false, reduceCtorEq]
      refine Cont.mk (half16_c im _) ?_
      simp (maxSteps := 2000000) (disch := omega) only [go_sem, seval, eq_self, if_true, if_false, reduceCtorEq]
      exact ⟨_, _, Wk.slots (by (try simp only [List.replicate, List.cons_append, List.nil_append]); repeat' first | exact WkL.nil | refine WkL.cons (Wk1.rfl _) ?_ | refine WkL.cons Wk1.esl ?_ | refine WkL.cons (Wk1.gsl _ _ _) ?_ | refine WkL.cons (Wk1.any _) ?_), rfl, rfl⟩
    · have hk : k1B ⟨2, u, v, a, b, c, op, im⟩ = (A && ft20 im) := by rw [hA]; rfl
      rw [hk, ← hA]
      clear hk hA
      simp (maxSteps := 2000000) (disch := omega) only [go_sem, seval, eq_self, if_true, if_false, reduceCtorEq]
      refine W.dregD [([], []), ([], []), ([], [H.length + 1]), ([], [H.length + 1]), ([], []), ([H.length + 1], []), ([], []), ([H.length + 1], [])] follows (by decide +kernel) rfl rfl (fun z hz b' hb' => ?_) ?_
      · simp only [List.mem_cons, List.not_mem_nil, or_false] at hz
        rcases hz with rfl | rfl | rfl | rfl | rfl | rfl | rfl | rfl <;> simp at hb' <;> subst hb' <;> exact ⟨by simp, by simp⟩
      repeat (rw [DC_p]; simp (maxSteps := 2000000) (disch := omega) only [kill_c, go_sem, seval, eq_self, if_true, if_false, reduceCtorEq])
      refine WStep.ev (by simp) (by simp) ?_
      simp (maxSteps := 2000000) (disch := omega) only [go_sem, seval, eq_self, if_true, if_false, reduceCtorEq]
      refine ⟨FrOk.put 1 _ (by simp) rfl, ?_⟩
      repeat (rw [DC_p]; simp (maxSteps := 2000000) (disch := omega) only [kill_c, go_sem, seval, eq_self, if_true, if_false, reduceCtorEq])
      refine WStep.ev (by simp) (by simp) ?_
      simp (maxSteps := 2000000) (disch := omega) only [go_sem, seval, eq_self, if_true, if_false, reduceCtorEq]
      refine ⟨FrOk.put 1 _ (by simp) rfl, ?_⟩
      repeat (rw [DC_p]; simp (maxSteps := 2000000) (disch := omega) only [kill_c, go_sem, seval, eq_self, if_true, if_false, reduceCtorEq])
      cases A
      · simp (maxSteps := 2000000) (disch := omega) only [go_sem, seval, eq_self, if_true, if_false, reduceCtorEq]
        exact ⟨_, _, Wk.slots (by (try simp only [List.replicate, List.cons_append, List.nil_append]); repeat' first | exact WkL.nil | refine WkL.cons (Wk1.rfl _) ?_ | refine WkL.cons Wk1.esl ?_ | refine WkL.cons (Wk1.gsl _ _ _) ?_ | refine WkL.cons (Wk1.any _) ?_), rfl, rfl⟩
      simp (maxSteps := 2000000) (disch := omega) only [go_sem, seval, eq_self, if_true, if_false, reduceCtorEq]
      refine Cont.mk (fits20_c im _) ?_
      simp (maxSteps := 2000000) (disch := omega) only [go_sem, seval, eq_self, if_true, if_false, reduceCtorEq]
      exact ⟨_, _, Wk.slots (by (try simp only [List.replicate, List.cons_append, List.nil_append]); repeat' first | exact WkL.nil | refine WkL.cons (Wk1.rfl _) ?_ | refine WkL.cons Wk1.esl ?_ | refine WkL.cons (Wk1.gsl _ _ _) ?_ | refine WkL.cons (Wk1.any _) ?_), rfl, rfl⟩
    · have hk : k1B ⟨3, u, v, a, b, c, op, im⟩ = (A && ft24 im) := by rw [hA]; rfl
      rw [hk, ← hA]
      clear hk hA
      cases u <;> cases A <;> (
        simp (maxSteps := 2000000) (disch := omega) only [go_sem, seval, eq_self, if_true, if_false, reduceCtorEq]
        first
        | exact ⟨_, _, Wk.slots (by (try simp only [List.replicate, List.cons_append, List.nil_append]); repeat' first | exact WkL.nil | refine WkL.cons (Wk1.rfl _) ?_ | refine WkL.cons Wk1.esl ?_ | refine WkL.cons (Wk1.gsl _ _ _) ?_ | refine WkL.cons (Wk1.any _) ?_), rfl, rfl⟩
        | (refine Cont.mk (fits24_c im _) ?_
           simp (maxSteps := 2000000) (disch := omega) only [go_sem, seval, eq_self, if_true, if_false, reduceCtorEq]
           exact ⟨_, _, Wk.slots (by (try simp only [List.replicate, List.cons_append, List.nil_append]); repeat' first | exact WkL.nil | refine WkL.cons (Wk1.rfl _) ?_ | refine WkL.cons Wk1.esl ?_ | refine WkL.cons (Wk1.gsl _ _ _) ?_ | refine WkL.cons (Wk1.any _) ?_), rfl, rfl⟩))
  rintro s H' ⟨rfl, rfl⟩
  refine W.cut (fun s H' => s = [.any, .ptr H.length 0, bv false, .ptr (H.length + 1) 0, bv (k2B ⟨f, u, v, a, b, c, op, im⟩)] ++ List.replicate 141 .any ∧ H' = H ++ [.cells (In.mk f u v a b c op im).cs, .cells (In.mk f u v a b c op im).y.cs]) (wpA.W ?_) ?_
  · have hk : k2B ⟨f, u, v, a, b, c, op, im⟩ = (k1B ⟨f, u, v, a, b, c, op, im⟩ && (!u || decide (2 ≤ f) || decide (op = 0) || (decide (8 ≤ op) && decide (op ≤ 10)))) := rfl
    rw [hk]
    clear hk
    generalize k1B ⟨f, u, v, a, b, c, op, im⟩ = A
    generalize (In.mk f u v a b c op im).y.cs = Y
    have hw : ∀ B, B = (A && (!u || decide (2 ≤ f) || decide (op = 0) || (decide (8 ≤ op) && decide (op ≤ 10)))) → bv (A && (!u || decide (2 ≤ f) || decide (op = 0) || (decide (8 ≤ op) && decide (op ≤ 10)))) = bv B := fun B h => by rw [h]
    cases A
    · rw [hw false rfl]
      clear hw
      cases u
      · simp (maxSteps := 2000000) (disch := omega) only [go_sem, seval, eq_self, if_true, if_false, reduceCtorEq]
        exact ⟨_, _, Wk.slots (by (try simp only [List.replicate, List.cons_append, List.nil_append]); repeat' first | exact WkL.nil | refine WkL.cons (Wk1.rfl _) ?_ | refine WkL.cons Wk1.esl ?_ | refine WkL.cons (Wk1.gsl _ _ _) ?_ | refine WkL.cons (Wk1.any _) ?_), rfl, rfl⟩
      · rcases hf with rfl | rfl | rfl | rfl <;> (
          simp (maxSteps := 2000000) (disch := omega) only [go_sem, seval, eq_self, if_true, if_false, reduceCtorEq]
          exact ⟨_, _, Wk.slots (by (try simp only [List.replicate, List.cons_append, List.nil_append]); repeat' first | exact WkL.nil | refine WkL.cons (Wk1.rfl _) ?_ | refine WkL.cons Wk1.esl ?_ | refine WkL.cons (Wk1.gsl _ _ _) ?_ | refine WkL.cons (Wk1.any _) ?_), rfl, rfl⟩)
    cases u
    · rw [hw true rfl]
      clear hw
      simp (maxSteps := 2000000) (disch := omega) only [go_sem, seval, eq_self, if_true, if_false, reduceCtorEq]
      exact ⟨_, _, Wk.slots (by (try simp only [List.replicate, List.cons_append, List.nil_append]); repeat' first | exact WkL.nil | refine WkL.cons (Wk1.rfl _) ?_ | refine WkL.cons Wk1.esl ?_ | refine WkL.cons (Wk1.gsl _ _ _) ?_ | refine WkL.cons (Wk1.any _) ?_), rfl, rfl⟩
    have two : 2 ≤ f → ∀ B, B = true → bv (true && (!true || decide (2 ≤ f) || decide (op = 0) || (decide (8 ≤ op) && decide (op ≤ 10)))) = bv B := fun h B hB => by rw [dect h, hB]; rfl
    by_cases h2 : 2 ≤ f
    · rw [two h2 true rfl]
      clear hw two
      have n0 : ¬ f = 0 := by omega
      have n1 : ¬ f = 1 := by omega
      simp (maxSteps := 2000000) (disch := omega) only [go_sem, seval, eq_self, if_true, if_false, reduceCtorEq]
      exact ⟨_, _, Wk.slots (by (try simp only [List.replicate, List.cons_append, List.nil_append]); repeat' first | exact WkL.nil | refine WkL.cons (Wk1.rfl _) ?_ | refine WkL.cons Wk1.esl ?_ | refine WkL.cons (Wk1.gsl _ _ _) ?_ | refine WkL.cons (Wk1.any _) ?_), rfl, rfl⟩
    have hB : ∀ B, B = (decide (op = 0) || (decide (8 ≤ op) && decide (op ≤ 10))) → bv (true && (!true || decide (2 ≤ f) || decide (op = 0) || (decide (8 ≤ op) && decide (op ≤ 10)))) = bv B := fun B h => by rw [h, decf h2]; rfl
    clear hw two
    have f01 : f = 0 ∨ f = 1 := by omega
    by_cases h0 : op = 0
    · rw [hB true (by rw [dect h0]; rfl)]
      rcases f01 with rfl | rfl <;> (
        simp (maxSteps := 2000000) (disch := omega) only [go_sem, seval, eq_self, if_true, if_false, reduceCtorEq]
        exact ⟨_, _, Wk.slots (by (try simp only [List.replicate, List.cons_append, List.nil_append]); repeat' first | exact WkL.nil | refine WkL.cons (Wk1.rfl _) ?_ | refine WkL.cons Wk1.esl ?_ | refine WkL.cons (Wk1.gsl _ _ _) ?_ | refine WkL.cons (Wk1.any _) ?_), rfl, rfl⟩)
    by_cases h8 : 8 ≤ op
    · by_cases h10 : op ≤ 10
      · rw [hB true (by rw [decf h0, dect h8, dect h10]; rfl)]
        rcases f01 with rfl | rfl <;> (
          simp (maxSteps := 2000000) (disch := omega) only [go_sem, seval, eq_self, if_true, if_false, reduceCtorEq]
          exact ⟨_, _, Wk.slots (by (try simp only [List.replicate, List.cons_append, List.nil_append]); repeat' first | exact WkL.nil | refine WkL.cons (Wk1.rfl _) ?_ | refine WkL.cons Wk1.esl ?_ | refine WkL.cons (Wk1.gsl _ _ _) ?_ | refine WkL.cons (Wk1.any _) ?_), rfl, rfl⟩)
      · rw [hB false (by rw [decf h0, dect h8, decf h10]; rfl)]
        rcases f01 with rfl | rfl <;> (
          simp (maxSteps := 2000000) (disch := omega) only [go_sem, seval, eq_self, if_true, if_false, reduceCtorEq]
          exact ⟨_, _, Wk.slots (by (try simp only [List.replicate, List.cons_append, List.nil_append]); repeat' first | exact WkL.nil | refine WkL.cons (Wk1.rfl _) ?_ | refine WkL.cons Wk1.esl ?_ | refine WkL.cons (Wk1.gsl _ _ _) ?_ | refine WkL.cons (Wk1.any _) ?_), rfl, rfl⟩)
    · rw [hB false (by rw [decf h0, decf h8]; rfl)]
      rcases f01 with rfl | rfl <;> (
        simp (maxSteps := 2000000) (disch := omega) only [go_sem, seval, eq_self, if_true, if_false, reduceCtorEq]
        exact ⟨_, _, Wk.slots (by (try simp only [List.replicate, List.cons_append, List.nil_append]); repeat' first | exact WkL.nil | refine WkL.cons (Wk1.rfl _) ?_ | refine WkL.cons Wk1.esl ?_ | refine WkL.cons (Wk1.gsl _ _ _) ?_ | refine WkL.cons (Wk1.any _) ?_), rfl, rfl⟩)
  rintro s H' ⟨rfl, rfl⟩
  refine wpA.W ?_
  have hk : gdB ⟨f, u, v, a, b, c, op, im⟩ = (k2B ⟨f, u, v, a, b, c, op, im⟩ && hf4 b && hf4 c && decide (0 ≤ op) && decide (op ≤ 11) && (decide (b = (In.mk f u v a b c op im).y.b) && decide (c = (In.mk f u v a b c op im).y.c) && decide (op = (In.mk f u v a b c op im).y.op) && decide (im = (In.mk f u v a b c op im).y.im))) := rfl
  have hy : (In.mk f u v a b c op im).y.f = f ∧ (In.mk f u v a b c op im).y.u = u ∧ (In.mk f u v a b c op im).y.v = v ∧ (In.mk f u v a b c op im).y.a = a := by
    unfold In.y; simp only; split <;> (try split) <;> (try split) <;> (try split) <;> exact ⟨rfl, rfl, rfl, rfl⟩
  rw [hk]
  clear hk
  obtain ⟨y1, y2, y3, y4⟩ := hy
  simp only [In.cs, y1, y2, y3, y4]
  have hyI : (-9223372036854775808 ≤ (In.mk f u v a b c op im).y.b ∧ (In.mk f u v a b c op im).y.b ≤ 9223372036854775807) ∧ (-9223372036854775808 ≤ (In.mk f u v a b c op im).y.c ∧ (In.mk f u v a b c op im).y.c ≤ 9223372036854775807) ∧ (-9223372036854775808 ≤ (In.mk f u v a b c op im).y.op ∧ (In.mk f u v a b c op im).y.op ≤ 9223372036854775807) ∧ (-9223372036854775808 ≤ (In.mk f u v a b c op im).y.im ∧ (In.mk f u v a b c op im).y.im ≤ 9223372036854775807) := by
    obtain ⟨i1, i2, i3, i4, i5⟩ := hI
    unfold In.y; simp only; split <;> (try split) <;> (try split) <;> (try split) <;> (simp only; omega)
  generalize k2B ⟨f, u, v, a, b, c, op, im⟩ = A
  generalize (In.mk f u v a b c op im).y.b = b' at hyI ⊢
  generalize (In.mk f u v a b c op im).y.c = c' at hyI ⊢
  generalize (In.mk f u v a b c op im).y.op = op' at hyI ⊢
  generalize (In.mk f u v a b c op im).y.im = im' at hyI ⊢
  have fin : ∀ B D, B = D → ∀ l, Ret r86 H.length (fun v H' => v = bv D ∧ H' = H) (some (bv B)) (H ++ l) := fun B D h l => by rw [h]; exact Ret.drop _ H (Nat.le_refl _) hcl (.rfl _) (by simp [refs]) ⟨rfl, rfl⟩
  cases A
  · simp (maxSteps := 2000000) (disch := omega) only [go_sem, seval, eq_self, if_true, if_false, reduceCtorEq]
    exact fin _ _ rfl _
  simp (maxSteps := 2000000) (disch := omega) only [go_sem, seval, eq_self, if_true, if_false, reduceCtorEq]
  refine Cont.mk (half4_c b _) ?_
  generalize hf4 b = B
  cases B
  · simp (maxSteps := 2000000) (disch := omega) only [go_sem, seval, eq_self, if_true, if_false, reduceCtorEq]
    exact fin _ _ rfl _
  simp (maxSteps := 2000000) (disch := omega) only [go_sem, seval, eq_self, if_true, if_false, reduceCtorEq]
  refine Cont.mk (half4_c c _) ?_
  generalize hf4 c = C
  cases C
  · simp (maxSteps := 2000000) (disch := omega) only [go_sem, seval, eq_self, if_true, if_false, reduceCtorEq]
    exact fin _ _ rfl _
  simp (maxSteps := 2000000) (disch := omega) only [go_sem, seval, eq_self, if_true, if_false, reduceCtorEq]
  by_cases p1 : 0 ≤ op
  rotate_left
  · simp (maxSteps := 2000000) (disch := omega) only [go_sem, seval, eq_self, if_true, if_false, reduceCtorEq]
    exact fin _ _ rfl _
  by_cases p2 : op ≤ 11
  rotate_left
  · simp (maxSteps := 2000000) (disch := omega) only [go_sem, seval, eq_self, if_true, if_false, reduceCtorEq]
    exact fin _ _ rfl _
  have hb' : -9223372036854775808 ≤ b' ∧ b' ≤ 9223372036854775807 := hyI.1
  have hc' : -9223372036854775808 ≤ c' ∧ c' ≤ 9223372036854775807 := hyI.2.1
  have ho' : -9223372036854775808 ≤ op' ∧ op' ≤ 9223372036854775807 := hyI.2.2.1
  have hm' : -9223372036854775808 ≤ im' ∧ im' ≤ 9223372036854775807 := hyI.2.2.2
  have k1 := fits_in (f := f) (u := u) (v := v) (by omega) hI.1 hI.2.1 hI.2.2.1 hI.2.2.2.1 hI.2.2.2.2
  have k2 := fits_in (f := f) (u := u) (v := v) (by omega) hI.1 hb' hc' ho' hm'
  rw [dect p1, dect p2]
  simp (maxSteps := 2000000) (disch := omega) only [key_in, k1, k2, keq_in, go_sem, seval, eq_self, if_true, if_false, reduceCtorEq]
  exact fin _ _ rfl _
end Go.Proofs.YtmgmoamcbnkbfaaGreatDoor
