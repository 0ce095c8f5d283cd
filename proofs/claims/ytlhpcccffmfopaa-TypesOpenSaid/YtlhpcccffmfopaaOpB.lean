/- The arguments of the rows. -/
import Derived.Test.YtlhpcccffmfopaaRead
import Derived.Test.YtlhpcccffmfopaaP3
import Derived.Test.YtlhpcccffmfopaaGdD
import Derived.Test.YtlhpcccffmfopaaRows
namespace Go.Proofs.Ytlhpcccffmfopaa
set_option linter.unusedVariables false
set_option linter.unusedSimpArgs false
set_option linter.unusedSectionVars false
set_option linter.unusedSectionVars false
open Go.ChangeShapes Go.WideShapes Go.ChangeAt Go.RowKit
theorem Try.laidOut : laidOutB Try.prog = true := by kernel_rfl
theorem Try.own : ownKnob Try.prog.godebug = none := by kernel_rfl
def argL : List TypeId := [22, 32, 29, 48, 30, 36, 3, 9, 4, 42]
theorem argL_ok : dataB Try.prog argL = true := by kernel_rfl
abbrev I64 (n : Int) : Prop := -9223372036854775808 ≤ n ∧ n < 9223372036854775808
theorem read_list {α : Type} [Inhabited α] (f : α → List Dat) (Ok : α → Prop) {es : List (List Dat)} (h : ∀ c ∈ es, ∃ s, c = f s ∧ Ok s) : ∃ l : List α, es = l.map f ∧ ∀ s ∈ l, Ok s := by
  have key : ∀ c : List Dat, ∃ s : α, c ∈ es → c = f s ∧ Ok s := fun c => by
    by_cases hc : c ∈ es
    · obtain ⟨s, e, hs⟩ := h c hc
      exact ⟨s, fun _ => ⟨e, hs⟩⟩
    · exact ⟨default, fun h => absurd h hc⟩
  obtain ⟨F, hF⟩ := Classical.axiomOfChoice key
  refine ⟨es.map F, ?_, fun x hx => ?_⟩
  · rw [List.map_map]
    symm
    conv => rhs; rw [← List.map_id es]
    exact List.map_congr_left fun c hc => ((hF c hc).1).symm
  · obtain ⟨c, hc, rfl⟩ := List.mem_map.1 hx
    exact (hF c hc).2
def Fd.In (f : Fd) : Prop := f.name.size ≤ 140737488355328 ∧ I64 f.typ
def Pm.In (p : Pm) : Prop := I64 p.typ
structure Ty.In (x : Ty) : Prop where
  ok : x.Ok
  form : I64 x.form
  len : I64 x.len
  elem : I64 x.elem
  base : I64 x.base
  result : I64 x.result
  desc : I64 x.desc
  fd : ∀ f ∈ x.fields, f.In
  pm : ∀ p ∈ x.params, p.In
theorem read_fd {c : List Dat} (h : TyD Try.prog 48 c) : ∃ s : Fd, c = s.c ∧ s.In := by
  obtain ⟨parts, rfl, hl, hp⟩ := h.st_inv Try.underlying48
  match parts, hl with
  | [p0, p1, p2], _ =>
    obtain ⟨n0, rfl, h0⟩ := (hp 0 _ _ rfl rfl).str_inv Try.underlying9
    obtain ⟨n1, rfl⟩ := (hp 1 _ _ rfl rfl).bool_inv Try.underlying4
    obtain ⟨n2, rfl, h2⟩ := (hp 2 _ _ rfl rfl).int_inv Try.underlying3
    exact ⟨⟨n0, n1, n2⟩, rfl, h0, wf_i64 h2⟩
theorem read_pm {c : List Dat} (h : TyD Try.prog 36 c) : ∃ s : Pm, c = s.c ∧ s.In := by
  obtain ⟨parts, rfl, hl, hp⟩ := h.st_inv Try.underlying36
  match parts, hl with
  | [p0, p1], _ =>
    obtain ⟨n0, rfl⟩ := (hp 0 _ _ rfl rfl).bool_inv Try.underlying4
    obtain ⟨n1, rfl, h1⟩ := (hp 1 _ _ rfl rfl).int_inv Try.underlying3
    exact ⟨⟨n0, n1⟩, rfl, wf_i64 h1⟩
theorem len_le {n e : Nat} (hb : 1 ≤ Try.prog.bytesOf e) (h : n * Try.prog.bytesOf e ≤ 140737488355328) : n ≤ 140737488355328 := Nat.le_trans (Nat.le_mul_of_pos_right n hb) h
theorem b48 : 1 ≤ Try.prog.bytesOf 48 := of_decide_eq_true (by kernel_rfl)
theorem b36 : 1 ≤ Try.prog.bytesOf 36 := of_decide_eq_true (by kernel_rfl)
theorem b32 : 1 ≤ Try.prog.bytesOf 32 := of_decide_eq_true (by kernel_rfl)
theorem read_ty1 {c : List Dat} (h : TyD Try.prog 32 c) : ∃ s : Ty, c = s.c ∧ s.In := by
  obtain ⟨parts, rfl, hl, hp⟩ := h.st_inv Try.underlying32
  match parts, hl with
  | [p0, p1, p2, p3, p4, p5, p6, p7, p8, p9], _ =>
    obtain ⟨n0, rfl, h0⟩ := (hp 0 _ _ rfl rfl).int_inv Try.underlying3
    obtain ⟨n1, rfl, h1⟩ := (hp 1 _ _ rfl rfl).str_inv Try.underlying9
    obtain ⟨n2, rfl, h2⟩ := (hp 2 _ _ rfl rfl).str_inv Try.underlying9
    obtain ⟨n3, rfl, h3⟩ := (hp 3 _ _ rfl rfl).int_inv Try.underlying3
    obtain ⟨n4, rfl, h4⟩ := (hp 4 _ _ rfl rfl).int_inv Try.underlying3
    obtain ⟨n5, rfl, h5⟩ := (hp 5 _ _ rfl rfl).int_inv Try.underlying3
    obtain ⟨n6, rfl, ⟨_, h6⟩, g6⟩ := (hp 6 _ _ rfl rfl).sl_inv Try.underlying29
    obtain ⟨n7, rfl, ⟨_, h7⟩, g7⟩ := (hp 7 _ _ rfl rfl).sl_inv Try.underlying30
    obtain ⟨n8, rfl, h8⟩ := (hp 8 _ _ rfl rfl).int_inv Try.underlying3
    obtain ⟨n9, rfl, h9⟩ := (hp 9 _ _ rfl rfl).int_inv Try.underlying3
    obtain ⟨fl, rfl, gf⟩ := read_list Fd.c Fd.In fun c hc => read_fd (g6 c hc)
    obtain ⟨pl, rfl, gp⟩ := read_list Pm.c Pm.In fun c hc => read_pm (g7 c hc)
    rw [List.length_map] at h6 h7
    exact ⟨⟨n0, n1, n2, n3, n4, n5, fl, pl, n8, n9⟩, rfl, ⟨len_le b48 h6, len_le b36 h7, h1, h2⟩, wf_i64 h0, wf_i64 h3, wf_i64 h4, wf_i64 h5, wf_i64 h8, wf_i64 h9, gf, gp⟩
theorem read_tab {a : AV} (h : ArgD Try.prog 22 a) : ∃ t : List Ty, a = tv t ∧ TOk t ∧ FNames t ∧ ∀ x ∈ t, x.In := by
  obtain ⟨es, rfl, hl, he⟩ := h.sl Try.underlying22
  obtain ⟨t, rfl, ht⟩ := read_list Ty.c Ty.In fun c hc => read_ty1 (he c hc)
  have h1 := hl.2
  rw [List.length_map] at h1
  exact ⟨t, rfl, ⟨len_le b32 h1, fun x hx => (ht x hx).ok⟩, fun x hx f hf => ((ht x hx).fd f hf).1, ht⟩
end Go.Proofs.Ytlhpcccffmfopaa

/- TypesOpen. -/
namespace Go.Proofs.Ytlhpcccffmfopaa
set_option linter.unusedVariables false
set_option linter.unusedSimpArgs false
set_option linter.unusedSectionVars false
set_option linter.unusedSimpArgs false
set_option linter.unusedVariables false
set_option maxRecDepth 20000
set_option maxHeartbeats 4000000
open Go.RowKit

def openU (k : Nat) (L e : Int) : List Ty := [⟨7, se, se, L, e, 0, [], [], 0, 0⟩, ⟨8, se, se, 0, e, 0, [], [], 0, 0⟩, ⟨8, se, se, 0, (k : Int) + 1, 0, [], [], 0, 0⟩]
theorem formA_p' {t : List Ty} {n : Int} (h : placeP t n) : formA t n = (tyAt t n).form := if_pos h
theorem simF_re (t : List Ty) (a : Int) : simF t a a = true := dect (Sim.refl t a)
section
variable {t : List Ty} {L e : Int} (h : GoodP t) (hl : t.length ≤ 250) (hL : 1 ≤ L ∧ L ≤ 4096) (he : placeP t e) (hf : (tyAt t e).form ≠ 0 ∧ (tyAt t e).form ≠ 5 ∧ (tyAt t e).form ≠ 6 ∧ (tyAt t e).form ≠ 8)
include h hl hL he hf
theorem form_rng : partP (tyAt t e).form := by
  rcases h.at_ he.1 he.2 with ⟨h7, q⟩ | ⟨h7, q⟩
  · rw [q] at hf ⊢
    have := he.1
    simp only [bt] at hf ⊢
    exact .inl (by omega)
  · have := FrmP.form q
    rcases this with k | k | k | k | k
    · exact .inr (.inl k)
    · exact absurd k hf.2.2.2
    · exact .inr (.inr (by omega))
    · exact .inr (.inr (by omega))
    · exact .inr (.inr (by omega))
theorem open_new : NewP t (openU t.length L e) := by
  have h7 := h.len.1
  have hu : (openU t.length L e).length = 3 := rfl
  have hp : partP (formA t e) := by rw [formA_p' he]; exact form_rng h hl hL he hf
  have fe : partP (formA (t ++ openU t.length L e) e) := part_app hp
  have t1 : tyAt (t ++ openU t.length L e) ((t.length : Int) + (1 : Nat)) = ⟨8, se, se, 0, e, 0, [], [], 0, 0⟩ := by rw [tyAt_new]; rfl
  have f1 : formA (t ++ openU t.length L e) ((t.length : Int) + 1) = 8 := by
    rw [formA, if_pos ⟨by omega, by rw [List.length_append, hu]; omega⟩, show (t.length : Int) + 1 = (t.length : Int) + (1 : Nat) from rfl, t1]
  have he1 := he.1
  have he2 := he.2
  refine ⟨by omega, fun i hi => ?_, fun i hi y hy => ?_, fun i hi h9 => ?_⟩
  · have : i = 0 ∨ i = 1 ∨ i = 2 := by omega
    rcases this with rfl | rfl | rfl
    · exact ⟨.inl ⟨rfl, hL.1, hL.2, fe⟩, .inl ⟨rfl, rfl, show (7 : Int) ≠ 9 by decide⟩, ⟨rfl, rfl, rfl, rfl, rfl, rfl, rfl⟩⟩
    · exact ⟨.inr (.inl ⟨rfl, .inl fe⟩), .inl ⟨rfl, rfl, show (8 : Int) ≠ 9 by decide⟩, ⟨rfl, rfl, rfl, rfl, rfl, rfl, rfl⟩⟩
    · exact ⟨.inr (.inl ⟨rfl, .inr f1⟩), .inl ⟨rfl, rfl, show (8 : Int) ≠ 9 by decide⟩, ⟨rfl, rfl, rfl, rfl, rfl, rfl, rfl⟩⟩
  · have : i = 0 ∨ i = 1 ∨ i = 2 := by omega
    rcases this with rfl | rfl | rfl
    · rw [kids_arr (.inl (by rw [tyAt_new]; rfl)), tyAt_new] at hy
      rw [List.mem_singleton.1 hy]
      show (0 : Int) ≤ e ∧ e < _
      omega
    · rw [kids_arr (.inr (by rw [tyAt_new]; rfl)), tyAt_new] at hy
      rw [List.mem_singleton.1 hy]
      show (0 : Int) ≤ e ∧ e < _
      omega
    · rw [kids_arr (.inr (by rw [tyAt_new]; rfl)), tyAt_new] at hy
      rw [List.mem_singleton.1 hy]
      show (0 : Int) ≤ (t.length : Int) + 1 ∧ (t.length : Int) + 1 < (t.length : Int) + (2 : Nat)
      omega
  · have : i = 0 ∨ i = 1 ∨ i = 2 := by omega
    rcases this with rfl | rfl | rfl
    · exact absurd h9 (show (7 : Int) ≠ 9 by decide)
    · exact absurd h9 (show (8 : Int) ≠ 9 by decide)
    · exact absurd h9 (show (8 : Int) ≠ 9 by decide)
end
/-- What the statement asks of the table with more types. -/
structure OpenP (s : List Ty) (k : Nat) (e : Int) (f : Int) : Prop where
  a1 : fitF s k ⟨true, (k : Int) + 1⟩ = true
  a2 : fitF s k ⟨false, (k : Int) + 1⟩ = true
  a3 : asgG s k ((k : Int) + 1) = false
  a4 : asgG s ((k : Int) + 1) k = true
  a5 : ∀ i, placeP s i → fitF s i ⟨true, (k : Int) + 1⟩ = true → fitF s i ⟨false, (k : Int) + 1⟩ = true
  a6 : fitF s 6 ⟨false, (k : Int) + 1⟩ = decide (f = 3)
  a7 : fitF s 6 ⟨true, (k : Int) + 1⟩ = false
theorem open_p {t : List Ty} {L e : Int} (h : GoodP t) (hl : t.length ≤ 250) (hL : 1 ≤ L ∧ L ≤ 4096) (he : placeP t e) (hf : (tyAt t e).form ≠ 0 ∧ (tyAt t e).form ≠ 5 ∧ (tyAt t e).form ≠ 6 ∧ (tyAt t e).form ≠ 8) :
    OpenP (t ++ openU t.length L e) t.length e (tyAt t e).form := by
  have hg2 := h.app (open_new h hl hL he hf)
  have hlen := h.len
  have t0 : tyAt (t ++ openU t.length L e) ((t.length : Int)) = ⟨7, se, se, L, e, 0, [], [], 0, 0⟩ := by
    have := tyAt_new (t := t) (u := openU t.length L e) (i := 0)
    rw [show (t.length : Int) + (0 : Nat) = t.length by omega] at this
    rw [this]; rfl
  have t1 : tyAt (t ++ openU t.length L e) ((t.length : Int) + 1) = ⟨8, se, se, 0, e, 0, [], [], 0, 0⟩ := tyAt_new (t := t) (u := openU t.length L e) (i := 1)
  have t6 : tyAt (t ++ openU t.length L e) 6 = bt 6 := tyAt_lt hg2.toFrmP (by decide) (by decide)
  have te : tyAt (t ++ openU t.length L e) e = tyAt t e := tyAt_app he
  obtain ⟨s, hs⟩ : ∃ s, s = t ++ openU t.length L e := ⟨_, rfl⟩
  rw [← hs] at hg2 t0 t1 t6 te ⊢
  have op : ∀ bn, Opn s bn t.length ((t.length : Int) + 1) := fun bn => .elem (.inl (by rw [t0])) (by rw [t0, t1]; exact Sim.refl _ _)
  have hse : simF s (tyAt s (t.length : Int)).elem (tyAt s ((t.length : Int) + 1)).elem = true := by rw [t0, t1]; exact simF_re _ _
  refine ⟨?_, ?_, ?_, ?_, fun i hi hv => ?_, ?_, ?_⟩
  · unfold fitF fitV
    rw [if_pos ⟨by rw [t1], dect (op true)⟩]
  · unfold fitF fitV
    rw [if_pos ⟨by rw [t1], dect (op false)⟩]
  · unfold asgG asgF asgV
    rw [if_pos (by rw [t1]; exact .inr (.inr (.inr rfl)))]
  · unfold asgG asgF asgV
    rw [t0, t1]
    simp only [simF_re]
    simp
  · unfold fitF fitV at hv ⊢
    by_cases ho : Opn s false i ((t.length : Int) + 1)
    · rw [if_pos ⟨by rw [t1], dect ho⟩]
    · exfalso
      have hnt : ¬ Opn s true i ((t.length : Int) + 1) := fun k => ho (by
        rcases Opn.iff.1 k with k | k
        · rw [t1, te] at k
          rcases k.2 with q | q
          · exact .elem k.1 (by rw [t1]; exact q)
          · exact absurd q.1 hf.2.2.2
        · exact absurd k.2.1 (by decide))
      rw [if_neg (by rw [decf hnt]; simp)] at hv
      simp only [if_true, Bool.and_eq_true, Bool.or_eq_true, decide_eq_true_iff] at hv
      rcases hv.2 with k | ⟨k, k'⟩
      · have k : Sim s i ((t.length : Int) + 1) := of_decide_eq_true k
        rcases k.un with q | ⟨q, q'⟩
        · unfold easyF at q
          split at q
          · rename_i e1
            exact ho (.elem (.inr (by rw [e1, t1])) (by rw [e1]; exact Sim.refl _ _))
          split at q
          · rename_i e2
            have := of_decide_eq_true (Option.some.inj q)
            have := this.1
            rw [t1] at this e2
            simp only at this e2
            omega
          split at q
          · rename_i e3
            have := e3.2.1
            rw [t1] at this
            exact e3.1 this
          split at q
          · cases q
          · cases q
        · have hff := easy_form q
          rw [t1] at hff
          rcases q' with q' | q'
          · exact ho (.elem (.inr hff) q'.2.2.2.2)
          · have := q'.1; simp only at hff; omega
      · have := k'.1
        rw [t1] at this
        simp only at this
        omega
  · unfold fitF fitV
    have ho : Opn s false 6 ((t.length : Int) + 1) ↔ (tyAt t e).form = 3 := by
      rw [Opn.iff, t6, t1, te]
      simp [bt]
    by_cases f3 : (tyAt t e).form = 3
    · rw [if_pos ⟨by rw [t1], dect (ho.2 f3)⟩, dect f3]
    · rw [decf fun k => f3 (ho.1 k), decf f3]
      unfold asgG asgF asgV
      rw [t1]
      simp
  · unfold fitF fitV
    have ho : ¬ Opn s true 6 ((t.length : Int) + 1) := by
      rw [Opn.iff, t6]
      simp [bt]
    rw [decf ho, t6]
    simp [bt]
end Go.Proofs.Ytlhpcccffmfopaa

/- TypesOpen: the walk. -/
namespace Go.Proofs.Ytlhpcccffmfopaa
set_option linter.unusedVariables false
set_option linter.unusedSimpArgs false
set_option linter.unusedSectionVars false
set_option linter.unusedSimpArgs false
set_option linter.unusedVariables false
set_option maxRecDepth 20000
set_option maxHeartbeats 4000000
open Go.RowKit

theorem lenL (n : Int) : 1 ≤ IntKind.i64.wrap (1 + IntKind.i64.wrap ((IntKind.u64.wrap n).tmod 4096)) ∧ IntKind.i64.wrap (1 + IntKind.i64.wrap ((IntKind.u64.wrap n).tmod 4096)) ≤ 4096 := by
  have e : IntKind.u64.wrap n = n % 18446744073709551616 := by simp [IntKind.wrap, IntKind.bits, IntKind.signed]
  have h0 : 0 ≤ n % 18446744073709551616 := Int.emod_nonneg _ (by decide)
  rw [e, Int.tmod_eq_emod_of_nonneg h0]
  rw [w_i64 (x := n % 18446744073709551616 % 4096) (by omega) (by omega), w_i64 (by omega) (by omega)]
  omega
theorem TypesOpen_c {t : List Ty} (hk : TOk t) (hn : FNames t) (e n : Int) (ie : -9223372036854775808 ≤ n ∧ n < 9223372036854775808) (H : List ABlk) : ACalls Try.prog 5 [tv t, iv e, iv n] H fun v H' => v = bv true ∧ H' = H := by
  refine ACalls.into Try.func5 cc5 rr5 fun hcl => ?_
  have fin : ∀ l, Ret r5 H.length (fun v H' => v = bv true ∧ H' = H) (some (bv true)) (H ++ l) := fun l => Ret.drop (bv true) H (Nat.le_refl _) hcl (.rfl _) (by simp [refs]) ⟨rfl, rfl⟩
  have fin0 : Ret r5 H.length (fun v H' => v = bv true ∧ H' = H) (some (bv true)) H := Ret.keep ⟨rfl, rfl⟩
  simp (maxSteps := 2000000) (disch := omega) only [Try.ntmps5, c5, r5, go_sem, eq_self, if_true, if_false, reduceCtorEq, Int.reduceToNat, Int.reducePow, Nat.reducePow, Nat.reduceMul, Int.reduceLT, Int.reduceLE, Nat.reduceAdd, Nat.reduceLeDiff, Nat.reduceBEq, Nat.reduceSub, Int.reduceSub, Int.reduceMul, Int.reduceNeg, Int.reduceAdd]
  refine Cont.rel (large_c hk _) ?_
  rintro v H' ⟨⟨B, rfl, hB⟩, rfl⟩
  cases B
  rotate_left
  · simp (maxSteps := 2000000) (disch := omega) only [go_sem, eq_self, if_true, if_false, reduceCtorEq, Int.reduceToNat, Int.reducePow, Nat.reducePow, Nat.reduceMul, Int.reduceLT, Int.reduceLE, Nat.reduceAdd, Nat.reduceLeDiff, Nat.reduceBEq, Nat.reduceSub, Int.reduceSub, Int.reduceMul, Int.reduceNeg, Int.reduceAdd]
    refine Cont.mk (wakes_c _) ?_
    simp (maxSteps := 2000000) (disch := omega) only [go_sem, eq_self, if_true, if_false, reduceCtorEq, Int.reduceToNat, Int.reducePow, Nat.reducePow, Nat.reduceMul, Int.reduceLT, Int.reduceLE, Nat.reduceAdd, Nat.reduceLeDiff, Nat.reduceBEq, Nat.reduceSub, Int.reduceSub, Int.reduceMul, Int.reduceNeg, Int.reduceAdd]
    exact fin0
  have hs := hB rfl
  have htt : TT t := ⟨hs, hn, hk⟩
  have hlen := hs.1
  simp (maxSteps := 2000000) (disch := omega) only [go_sem, eq_self, if_true, if_false, reduceCtorEq, Int.reduceToNat, Int.reducePow, Nat.reducePow, Nat.reduceMul, Int.reduceLT, Int.reduceLE, Nat.reduceAdd, Nat.reduceLeDiff, Nat.reduceBEq, Nat.reduceSub, Int.reduceSub, Int.reduceMul, Int.reduceNeg, Int.reduceAdd]
  refine Cont.mk (rgood_c hs hn hk _) ?_
  by_cases hg : GoodP t
  rotate_left
  · rw [good_f hg]
    simp (maxSteps := 2000000) (disch := omega) only [go_sem, eq_self, if_true, if_false, reduceCtorEq, Int.reduceToNat, Int.reducePow, Nat.reducePow, Nat.reduceMul, Int.reduceLT, Int.reduceLE, Nat.reduceAdd, Nat.reduceLeDiff, Nat.reduceBEq, Nat.reduceSub, Int.reduceSub, Int.reduceMul, Int.reduceNeg, Int.reduceAdd]
    refine Cont.mk (wakes_c _) ?_
    simp (maxSteps := 2000000) (disch := omega) only [go_sem, eq_self, if_true, if_false, reduceCtorEq, Int.reduceToNat, Int.reducePow, Nat.reducePow, Nat.reduceMul, Int.reduceLT, Int.reduceLE, Nat.reduceAdd, Nat.reduceLeDiff, Nat.reduceBEq, Nat.reduceSub, Int.reduceSub, Int.reduceMul, Int.reduceNeg, Int.reduceAdd]
    exact fin0
  rw [good_t hg]
  by_cases hl : t.length ≤ 250
  rotate_left
  · simp (maxSteps := 2000000) (disch := omega) only [List.length_map, go_sem, eq_self, if_true, if_false, reduceCtorEq, Int.reduceToNat, Int.reducePow, Nat.reducePow, Nat.reduceMul, Int.reduceLT, Int.reduceLE, Nat.reduceAdd, Nat.reduceLeDiff, Nat.reduceBEq, Nat.reduceSub, Int.reduceSub, Int.reduceMul, Int.reduceNeg, Int.reduceAdd]
    refine Cont.mk (wakes_c _) ?_
    simp (maxSteps := 2000000) (disch := omega) only [go_sem, eq_self, if_true, if_false, reduceCtorEq, Int.reduceToNat, Int.reducePow, Nat.reducePow, Nat.reduceMul, Int.reduceLT, Int.reduceLE, Nat.reduceAdd, Nat.reduceLeDiff, Nat.reduceBEq, Nat.reduceSub, Int.reduceSub, Int.reduceMul, Int.reduceNeg, Int.reduceAdd]
    exact fin0
  by_cases e0 : e < 0
  · simp (maxSteps := 2000000) (disch := omega) only [List.length_map, go_sem, eq_self, if_true, if_false, reduceCtorEq, Int.reduceToNat, Int.reducePow, Nat.reducePow, Nat.reduceMul, Int.reduceLT, Int.reduceLE, Nat.reduceAdd, Nat.reduceLeDiff, Nat.reduceBEq, Nat.reduceSub, Int.reduceSub, Int.reduceMul, Int.reduceNeg, Int.reduceAdd]
    refine Cont.mk (wakes_c _) ?_
    simp (maxSteps := 2000000) (disch := omega) only [go_sem, eq_self, if_true, if_false, reduceCtorEq, Int.reduceToNat, Int.reducePow, Nat.reducePow, Nat.reduceMul, Int.reduceLT, Int.reduceLE, Nat.reduceAdd, Nat.reduceLeDiff, Nat.reduceBEq, Nat.reduceSub, Int.reduceSub, Int.reduceMul, Int.reduceNeg, Int.reduceAdd]
    exact fin0
  by_cases e1 : e < t.length
  rotate_left
  · simp (maxSteps := 2000000) (disch := omega) only [List.length_map, go_sem, eq_self, if_true, if_false, reduceCtorEq, Int.reduceToNat, Int.reducePow, Nat.reducePow, Nat.reduceMul, Int.reduceLT, Int.reduceLE, Nat.reduceAdd, Nat.reduceLeDiff, Nat.reduceBEq, Nat.reduceSub, Int.reduceSub, Int.reduceMul, Int.reduceNeg, Int.reduceAdd]
    refine Cont.mk (wakes_c _) ?_
    simp (maxSteps := 2000000) (disch := omega) only [go_sem, eq_self, if_true, if_false, reduceCtorEq, Int.reduceToNat, Int.reducePow, Nat.reducePow, Nat.reduceMul, Int.reduceLT, Int.reduceLE, Nat.reduceAdd, Nat.reduceLeDiff, Nat.reduceBEq, Nat.reduceSub, Int.reduceSub, Int.reduceMul, Int.reduceNeg, Int.reduceAdd]
    exact fin0
  have he : placeP t e := ⟨by omega, e1⟩
  have iax := iaA_ty (t := t) he.1 he.2
  have hop := @open_p t
  have hnw := @open_new t
  by_cases hf : (tyAt t e).form ≠ 0 ∧ (tyAt t e).form ≠ 5 ∧ (tyAt t e).form ≠ 6 ∧ (tyAt t e).form ≠ 8
  rotate_left
  · have hf' : (tyAt t e).form = 0 ∨ (tyAt t e).form = 5 ∨ (tyAt t e).form = 6 ∨ (tyAt t e).form = 8 := by omega
    generalize tyAt t e = x at *
    rcases hf' with f | f | f | f <;> (
      simp (maxSteps := 2000000) (disch := omega) only [List.length_map, iax, Ty.c, f, go_sem, eq_self, if_true, if_false, reduceCtorEq, Int.reduceToNat, Int.reducePow, Nat.reducePow, Nat.reduceMul, Int.reduceLT, Int.reduceLE, Nat.reduceAdd, Nat.reduceLeDiff, Nat.reduceBEq, Nat.reduceSub, Int.reduceSub, Int.reduceMul, Int.reduceNeg, Int.reduceAdd]
      refine Cont.mk (wakes_c _) ?_
      simp (maxSteps := 2000000) (disch := omega) only [go_sem, eq_self, if_true, if_false, reduceCtorEq, Int.reduceToNat, Int.reducePow, Nat.reducePow, Nat.reduceMul, Int.reduceLT, Int.reduceLE, Nat.reduceAdd, Nat.reduceLeDiff, Nat.reduceBEq, Nat.reduceSub, Int.reduceSub, Int.reduceMul, Int.reduceNeg, Int.reduceAdd]
      exact fin0)
  simp (maxSteps := 2000000) (disch := omega) only [List.length_map, iax, Ty.c, go_sem, eq_self, if_true, if_false, reduceCtorEq, Int.reduceToNat, Int.reducePow, Nat.reducePow, Nat.reduceMul, Int.reduceLT, Int.reduceLE, Nat.reduceAdd, Nat.reduceLeDiff, Nat.reduceBEq, Nat.reduceSub, Int.reduceSub, Int.reduceMul, Int.reduceNeg, Int.reduceAdd]
  refine Cont.mk (copy_c hs _) ?_
  simp (maxSteps := 2000000) (disch := omega) only [List.length_map, go_sem, eq_self, if_true, if_false, reduceCtorEq, Int.reduceToNat, Int.reducePow, Nat.reducePow, Nat.reduceMul, Int.reduceLT, Int.reduceLE, Nat.reduceAdd, Nat.reduceLeDiff, Nat.reduceBEq, Nat.reduceSub, Int.reduceSub, Int.reduceMul, Int.reduceNeg, Int.reduceAdd]
  obtain ⟨hL1, hL2⟩ := lenL n
  generalize IntKind.i64.wrap (1 + IntKind.i64.wrap ((IntKind.u64.wrap n).tmod 4096)) = L at *
  have hm : t.map Ty.c ++ [[.v (.int .i64 7), .v (.string se), .v (.string se), .v (.int .i64 L), .v (.int .i64 e), .v (.int .i64 0), .sl [], .sl [], .v (.int .i64 0), .v (.int .i64 0)], [.v (.int .i64 8), .v (.string se), .v (.string se), .v (.int .i64 0), .v (.int .i64 e), .v (.int .i64 0), .sl [], .sl [], .v (.int .i64 0), .v (.int .i64 0)], [.v (.int .i64 8), .v (.string se), .v (.string se), .v (.int .i64 0), .v (.int .i64 (t.length + 1)), .v (.int .i64 0), .sl [], .sl [], .v (.int .i64 0), .v (.int .i64 0)]] = (t ++ openU t.length L e).map Ty.c := by rw [List.map_append]; rfl
  rw [hm]
  have ho := hop hg hl ⟨hL1, hL2⟩ he hf
  have hg2 := hg.app (hnw hg hl ⟨hL1, hL2⟩ he hf)
  have htt2 : TT (t ++ openU t.length L e) := htt.app (by show t.length + 3 ≤ 300; omega) (fun x hx => by
    simp only [openU, List.mem_cons, List.not_mem_nil, or_false] at hx
    rcases hx with rfl | rfl | rfl <;> exact ⟨by show 0 ≤ 1; omega, rfl, by show 0 ≤ 2; omega, rfl, fun f hf => by cases hf⟩)
  have hsl : (t ++ openU t.length L e).length = t.length + 3 := by rw [List.length_append]; rfl
  generalize t ++ openU t.length L e = s at *
  have h7 := hg.len.1
  generalize (tyAt t e).form = f at *
  have p6 : placeP s 6 := ⟨by decide, by omega⟩
  have pk : placeP s t.length := ⟨by omega, by omega⟩
  have pk1 : placeP s ((t.length : Int) + 1) := ⟨by omega, by omega⟩
  have ft : ∀ (i : Int) (v : Bool), placeP s i → ∀ B H, ACalls Try.prog 24 [.gsl B 10 (s.map Ty.c), iv i, .agg [bv v, iv ((t.length : Int) + 1)]] H fun v' H' => v' = bv (fitF s i ⟨v, (t.length : Int) + 1⟩) ∧ H' = H := fun i v hi B H => by
    have := gv_fit htt2 i ⟨v, (t.length : Int) + 1⟩ B H
    rwa [dect (pl2 hg2 hi pk1), Bool.true_and] at this
  have asn : ∀ a b, placeP s a → placeP s b → ∀ B H, ACalls Try.prog 22 [.gsl B 10 (s.map Ty.c), iv a, iv b] H fun v' H' => v' = bv (asgG s a b) ∧ H' = H := fun a b ha hb B H => by
    have := gv_asg htt2 a b B H
    rwa [dect (pl2 hg2 ha hb), Bool.true_and] at this
  have f1 := ft t.length true pk
  have f2 := ft t.length false pk
  have f3 := asn _ _ pk pk1
  have f4 := asn _ _ pk1 pk
  have f6 := ft 6 false p6
  have f7 := ft 6 true p6
  rw [ho.a1] at f1
  rw [ho.a2] at f2
  rw [ho.a3] at f3
  rw [ho.a4] at f4
  rw [ho.a6] at f6
  rw [ho.a7] at f7
  have h5 := ho.a5
  clear hop hnw ho hm
  refine Cont.mk ((copy_c htt2.s _).weak (.cons (.gsl _ _ _) .nil)) ?_
  simp (maxSteps := 2000000) (disch := omega) only [go_sem, eq_self, if_true, if_false, reduceCtorEq, Int.reduceToNat, Int.reducePow, Nat.reducePow, Nat.reduceMul, Int.reduceLT, Int.reduceLE, Nat.reduceAdd, Nat.reduceLeDiff, Nat.reduceBEq, Nat.reduceSub, Int.reduceSub, Int.reduceMul, Int.reduceNeg, Int.reduceAdd]
  refine Cont.mk (gv_good htt2 hg2 _ _) ?_
  simp (maxSteps := 2000000) (disch := omega) only [go_sem, eq_self, if_true, if_false, reduceCtorEq, Int.reduceToNat, Int.reducePow, Nat.reducePow, Nat.reduceMul, Int.reduceLT, Int.reduceLE, Nat.reduceAdd, Nat.reduceLeDiff, Nat.reduceBEq, Nat.reduceSub, Int.reduceSub, Int.reduceMul, Int.reduceNeg, Int.reduceAdd]
  refine Cont.mk (f1 _ _) ?_
  simp (maxSteps := 2000000) (disch := omega) only [go_sem, eq_self, if_true, if_false, reduceCtorEq, Int.reduceToNat, Int.reducePow, Nat.reducePow, Nat.reduceMul, Int.reduceLT, Int.reduceLE, Nat.reduceAdd, Nat.reduceLeDiff, Nat.reduceBEq, Nat.reduceSub, Int.reduceSub, Int.reduceMul, Int.reduceNeg, Int.reduceAdd]
  refine Cont.mk (f2 _ _) ?_
  simp (maxSteps := 2000000) (disch := omega) only [go_sem, eq_self, if_true, if_false, reduceCtorEq, Int.reduceToNat, Int.reducePow, Nat.reducePow, Nat.reduceMul, Int.reduceLT, Int.reduceLE, Nat.reduceAdd, Nat.reduceLeDiff, Nat.reduceBEq, Nat.reduceSub, Int.reduceSub, Int.reduceMul, Int.reduceNeg, Int.reduceAdd]
  refine Cont.mk (f3 _ _) ?_
  simp (maxSteps := 2000000) (disch := omega) only [go_sem, eq_self, if_true, if_false, reduceCtorEq, Int.reduceToNat, Int.reducePow, Nat.reducePow, Nat.reduceMul, Int.reduceLT, Int.reduceLE, Nat.reduceAdd, Nat.reduceLeDiff, Nat.reduceBEq, Nat.reduceSub, Int.reduceSub, Int.reduceMul, Int.reduceNeg, Int.reduceAdd]
  refine Cont.mk (f4 _ _) ?_
  simp (maxSteps := 2000000) (disch := omega) only [go_sem, eq_self, if_true, if_false, reduceCtorEq, Int.reduceToNat, Int.reducePow, Nat.reducePow, Nat.reduceMul, Int.reduceLT, Int.reduceLE, Nat.reduceAdd, Nat.reduceLeDiff, Nat.reduceBEq, Nat.reduceSub, Int.reduceSub, Int.reduceMul, Int.reduceNeg, Int.reduceAdd]
  refine W.loopG (γ := Nat) (fun i => s.length - i) (fun i => [.any, .any, .any, .any, .any, .any, bv false, iv f, .any, .gsl H'.length 10 (s.map Ty.c), .ptr (H'.length + 1) 0, .ptr (H'.length + 2) 0, iv i] ++ List.replicate 136 .any) (fun _ => H' ++ [.row 32 10 (t.length + 3), .cells [bv true, iv ((t.length : Int) + 1)], .cells [bv false, iv ((t.length : Int) + 1)], .row 32 10 s.length]) (fun i => i ≤ s.length) 0 (Wk.slots (by (try simp only [List.replicate, List.cons_append, List.nil_append]); repeat' first | exact WkL.nil | refine WkL.cons (Wk1.rfl _) ?_ | refine WkL.cons Wk1.esl ?_ | refine WkL.cons (Wk1.gsl _ _ _) ?_ | refine WkL.cons (Wk1.any _) ?_)) (by omega) (fun i hi => ?_)
  have bb : ∀ x : Bool, (x == x) = true := fun x => by cases x <;> rfl
  simp (maxSteps := 2000000) (disch := omega) only [c5l0, List.length_map, go_sem, eq_self, if_true, if_false, reduceCtorEq, Int.reduceToNat, Int.reducePow, Nat.reducePow, Nat.reduceMul, Int.reduceLT, Int.reduceLE, Nat.reduceAdd, Nat.reduceLeDiff, Nat.reduceBEq, Nat.reduceSub, Int.reduceSub, Int.reduceMul, Int.reduceNeg, Int.reduceAdd]
  by_cases c1 : i < s.length
  · by_cases c2 : i < 40
    · have pi : placeP s (i : Int) := ⟨by omega, by omega⟩
      have x1 := ft (i : Int) true pi
      have x2 := ft (i : Int) false pi
      have x5 := h5 (i : Int) pi
      generalize fitF s (i : Int) ⟨true, (t.length : Int) + 1⟩ = X at *
      generalize fitF s (i : Int) ⟨false, (t.length : Int) + 1⟩ = Y at *
      simp (maxSteps := 2000000) (disch := omega) only [List.length_map, go_sem, eq_self, if_true, if_false, reduceCtorEq, Int.reduceToNat, Int.reducePow, Nat.reducePow, Nat.reduceMul, Int.reduceLT, Int.reduceLE, Nat.reduceAdd, Nat.reduceLeDiff, Nat.reduceBEq, Nat.reduceSub, Int.reduceSub, Int.reduceMul, Int.reduceNeg, Int.reduceAdd]
      refine Cont.mk (x1 _ _) ?_
      cases X
      · simp (maxSteps := 2000000) (disch := omega) only [go_sem, eq_self, if_true, if_false, reduceCtorEq, Int.reduceToNat, Int.reducePow, Nat.reducePow, Nat.reduceMul, Int.reduceLT, Int.reduceLE, Nat.reduceAdd, Nat.reduceLeDiff, Nat.reduceBEq, Nat.reduceSub, Int.reduceSub, Int.reduceMul, Int.reduceNeg, Int.reduceAdd]
        exact Nxt.mk (i + 1) (by omega) (Wk.slots (by (try simp only [List.replicate, List.cons_append, List.nil_append]); repeat' first | exact WkL.nil | refine WkL.cons (Wk1.rfl _) ?_ | refine WkL.cons Wk1.esl ?_ | refine WkL.cons (Wk1.gsl _ _ _) ?_ | refine WkL.cons (Wk1.any _) ?_)) (by omega)
      · rw [x5 rfl] at x2
        simp (maxSteps := 2000000) (disch := omega) only [go_sem, eq_self, if_true, if_false, reduceCtorEq, Int.reduceToNat, Int.reducePow, Nat.reducePow, Nat.reduceMul, Int.reduceLT, Int.reduceLE, Nat.reduceAdd, Nat.reduceLeDiff, Nat.reduceBEq, Nat.reduceSub, Int.reduceSub, Int.reduceMul, Int.reduceNeg, Int.reduceAdd]
        refine Cont.mk (x2 _ _) ?_
        simp (maxSteps := 2000000) (disch := omega) only [go_sem, eq_self, if_true, if_false, reduceCtorEq, Int.reduceToNat, Int.reducePow, Nat.reducePow, Nat.reduceMul, Int.reduceLT, Int.reduceLE, Nat.reduceAdd, Nat.reduceLeDiff, Nat.reduceBEq, Nat.reduceSub, Int.reduceSub, Int.reduceMul, Int.reduceNeg, Int.reduceAdd]
        exact Nxt.mk (i + 1) (by omega) (Wk.slots (by (try simp only [List.replicate, List.cons_append, List.nil_append]); repeat' first | exact WkL.nil | refine WkL.cons (Wk1.rfl _) ?_ | refine WkL.cons Wk1.esl ?_ | refine WkL.cons (Wk1.gsl _ _ _) ?_ | refine WkL.cons (Wk1.any _) ?_)) (by omega)
    · simp (maxSteps := 2000000) (disch := omega) only [List.length_map, go_sem, eq_self, if_true, if_false, reduceCtorEq, Int.reduceToNat, Int.reducePow, Nat.reducePow, Nat.reduceMul, Int.reduceLT, Int.reduceLE, Nat.reduceAdd, Nat.reduceLeDiff, Nat.reduceBEq, Nat.reduceSub, Int.reduceSub, Int.reduceMul, Int.reduceNeg, Int.reduceAdd]
      refine Cont.mk (f6 _ _) ?_
      simp (maxSteps := 2000000) (disch := omega) only [bb, go_sem, eq_self, if_true, if_false, reduceCtorEq, Int.reduceToNat, Int.reducePow, Nat.reducePow, Nat.reduceMul, Int.reduceLT, Int.reduceLE, Nat.reduceAdd, Nat.reduceLeDiff, Nat.reduceBEq, Nat.reduceSub, Int.reduceSub, Int.reduceMul, Int.reduceNeg, Int.reduceAdd]
      refine Cont.mk (f7 _ _) ?_
      simp (maxSteps := 2000000) (disch := omega) only [go_sem, eq_self, if_true, if_false, reduceCtorEq, Int.reduceToNat, Int.reducePow, Nat.reducePow, Nat.reduceMul, Int.reduceLT, Int.reduceLE, Nat.reduceAdd, Nat.reduceLeDiff, Nat.reduceBEq, Nat.reduceSub, Int.reduceSub, Int.reduceMul, Int.reduceNeg, Int.reduceAdd]
      refine Cont.mk (wakes_c _) ?_
      simp (maxSteps := 2000000) (disch := omega) only [go_sem, eq_self, if_true, if_false, reduceCtorEq, Int.reduceToNat, Int.reducePow, Nat.reducePow, Nat.reduceMul, Int.reduceLT, Int.reduceLE, Nat.reduceAdd, Nat.reduceLeDiff, Nat.reduceBEq, Nat.reduceSub, Int.reduceSub, Int.reduceMul, Int.reduceNeg, Int.reduceAdd]
      exact fin _
  · simp (maxSteps := 2000000) (disch := omega) only [List.length_map, go_sem, eq_self, if_true, if_false, reduceCtorEq, Int.reduceToNat, Int.reducePow, Nat.reducePow, Nat.reduceMul, Int.reduceLT, Int.reduceLE, Nat.reduceAdd, Nat.reduceLeDiff, Nat.reduceBEq, Nat.reduceSub, Int.reduceSub, Int.reduceMul, Int.reduceNeg, Int.reduceAdd]
    refine Cont.mk (f6 _ _) ?_
    simp (maxSteps := 2000000) (disch := omega) only [bb, go_sem, eq_self, if_true, if_false, reduceCtorEq, Int.reduceToNat, Int.reducePow, Nat.reducePow, Nat.reduceMul, Int.reduceLT, Int.reduceLE, Nat.reduceAdd, Nat.reduceLeDiff, Nat.reduceBEq, Nat.reduceSub, Int.reduceSub, Int.reduceMul, Int.reduceNeg, Int.reduceAdd]
    refine Cont.mk (f7 _ _) ?_
    simp (maxSteps := 2000000) (disch := omega) only [go_sem, eq_self, if_true, if_false, reduceCtorEq, Int.reduceToNat, Int.reducePow, Nat.reducePow, Nat.reduceMul, Int.reduceLT, Int.reduceLE, Nat.reduceAdd, Nat.reduceLeDiff, Nat.reduceBEq, Nat.reduceSub, Int.reduceSub, Int.reduceMul, Int.reduceNeg, Int.reduceAdd]
    refine Cont.mk (wakes_c _) ?_
    simp (maxSteps := 2000000) (disch := omega) only [go_sem, eq_self, if_true, if_false, reduceCtorEq, Int.reduceToNat, Int.reducePow, Nat.reducePow, Nat.reduceMul, Int.reduceLT, Int.reduceLE, Nat.reduceAdd, Nat.reduceLeDiff, Nat.reduceBEq, Nat.reduceSub, Int.reduceSub, Int.reduceMul, Int.reduceNeg, Int.reduceAdd]
    exact fin _
end Go.Proofs.Ytlhpcccffmfopaa

/- TypesOpen, of any argument. -/
namespace Go.Proofs.Ytlhpcccffmfopaa
set_option linter.unusedVariables false
set_option linter.unusedSimpArgs false
set_option linter.unusedSectionVars false
open Go.ChangeShapes Go.WideShapes Go.ChangeAt Go.RowKit
theorem typesOpen_any {a0 a1 a2 : AV} (h0 : ArgD Try.prog 22 a0) (h1 : ArgD Try.prog 3 a1) (h2 : ArgD Try.prog 3 a2) (v0 v1 v2 : Value) (W : World) (hv : VRs ⟨W.cell?, fun _ _ => none⟩ [a0, a1, a2] [v0, v1, v2]) :
    Calls Try.prog 5 #[v0, v1, v2] W fun e w' => e = .returned (.bool true) ∧ Below W.heap.size W w' := by
  obtain ⟨t, rfl, g1, g2, _⟩ := read_tab h0
  obtain ⟨x, rfl, _⟩ := h1.int Try.underlying3
  obtain ⟨y, rfl, hy⟩ := h2.int Try.underlying3
  exact (TypesOpen_c g1 g2 x y (wf_i64 hy) []).law (fun a v h => h) hv
end Go.Proofs.Ytlhpcccffmfopaa

/- The row TypesOpen, proved. -/
namespace Go.Proofs.Ytlhpcccffmfopaa
set_option linter.unusedVariables false
set_option linter.unusedSimpArgs false
set_option linter.unusedSectionVars false
open Go.ChangeShapes Go.WideShapes Go.ChangeAt Go.RowKit

set_option maxRecDepth 100000 in
theorem typesOpen_lifted (os : Os) (started : os.Started) (H : Type) (enc : TypeId × Value → H) :
    ReturnsInHanded {} Try.checked os 5 .any (Rows.typesOpenSpec.pre6 enc Try.prog Try.f5 Rows.typesOpenRow.domain false) (Rows.typesOpenSpec.post enc Try.prog Try.f5 false true false false) := by
  refine returnsInHanded_of_change_sized (C := Try.checked) Try.own started (by kernel_rfl) Try.func5
    (ChangeSpec.witness6 (enc := enc) (C := Try.checked) false ⟨#[], #[.slice none 0 0, .int .i64 0, .int .i64 0], []⟩ 8 (by kernel_rfl) (by kernel_rfl) (by kernel_rfl) (by kernel_rfl)) ?_
  intro W base args ds gs before hval0 hW hcnd hsz _
  have hval : ∀ (j : Nat) t v, Try.f5.params[j]? = some t → args[j]? = some v → Value.okWide Try.prog W .any base t v := hval0
  have hW' := hW
  obtain ⟨p, q, hA0, hV, rfl, hfz, hnd⟩ := hW
  have hA : DataW.TrodAll enc Try.prog W 0 (fun _ => true) true Try.f5.params.toList args.toList ds p := hA0
  rw [Try.params5] at hA hval hsz
  obtain ⟨v0, v1, v2, d0, d1, d2, p0, p1, p2, rfl, rfl, rfl, h0, h1, h2⟩ := trodAll_three hA
  obtain ⟨rfl, rfl⟩ := trodVars_none hV
  obtain ⟨a0, ha0, hr0⟩ := read_val argL_ok (by decide) (hval 0 22 v0 rfl rfl) h0 (fun n hn => of_decide_eq_true (List.all_eq_true.1 hsz n (DataW.weights_mem_each (j := 0) rfl rfl n hn)))
  obtain ⟨a1, ha1, hr1⟩ := read_val argL_ok (by decide) (hval 1 3 v1 rfl rfl) h1 (fun n hn => of_decide_eq_true (List.all_eq_true.1 hsz n (DataW.weights_mem_each (j := 1) rfl rfl n hn)))
  obtain ⟨a2, ha2, hr2⟩ := read_val argL_ok (by decide) (hval 2 3 v2 rfl rfl) h2 (fun n hn => of_decide_eq_true (List.all_eq_true.1 hsz n (DataW.weights_mem_each (j := 2) rfl rfl n hn)))
  clear hA0 hval0
  simp only [List.append_nil] at hW'
  have hlt := hW'.lt
  refine (typesOpen_any ha0 ha1 ha2 v0 v1 v2 W (.cons hr0 (.cons hr1 (.cons hr2 .nil)))).mono fun e W' ⟨he, hw⟩ => ?_
  subst he
  exact ⟨_, rfl, post_of_below (pa := p0 ++ (p1 ++ p2)) (pv := []) hW' (fun _ _ _ => trodAll_mk1 (shut_bool Try.underlying4 _)) (fun sp hsp => trodAll_mk3 (WideElems.Trod_stays Try.laidOut (by kernel_rfl) (of_decide_eq_true (by kernel_rfl)) h0 (fun x hx => hw.same (hlt x (by simp [hx]))) (fun x hx => hsp x (by simp [hx]))) (WideElems.Trod_stays Try.laidOut (by kernel_rfl) (of_decide_eq_true (by kernel_rfl)) h1 (fun x hx => hw.same (hlt x (by simp [hx]))) (fun x hx => hsp x (by simp [hx]))) (WideElems.Trod_stays Try.laidOut (by kernel_rfl) (of_decide_eq_true (by kernel_rfl)) h2 (fun x hx => hw.same (hlt x (by simp [hx]))) (fun x hx => hsp x (by simp [hx])))) (fun _ _ => rfl) (by simp)
    hw (ok_one (by kernel_rfl) rfl (okWide_bool_mk Try.underlying4 _))⟩

theorem typesOpen_holds : Rows.TypesOpenSaid :=
  OpenClaim.holds_of_wide 5 Try.f5 rfl rfl rfl rfl rfl rfl rfl ⟨rfl, rfl, rfl, rfl, rfl⟩ rfl rfl rfl rfl rfl (by kernel_rfl) Try.func5 (by kernel_rfl)
    (of_decide_eq_true (by kernel_rfl)) (by unfold Func.isWrapper; first | (rw [if_pos (by decide +kernel)]; kernel_rfl) | (rw [if_neg (by decide +kernel)]; exact ⟨rfl, rfl⟩))
    (fun os started H enc _ => typesOpen_lifted os started H enc)
end Go.Proofs.Ytlhpcccffmfopaa
