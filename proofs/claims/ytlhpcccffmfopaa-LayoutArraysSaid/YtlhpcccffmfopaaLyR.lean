/- Plain law: an array more, and a record of it. -/
import Derived.Test.YtlhpcccffmfopaaLyA
import Derived.Test.YtlhpcccffmfopaaLyB
import Derived.Test.YtlhpcccffmfopaaRead
import Derived.Test.YtlhpcccffmfopaaP3
import Derived.Test.YtlhpcccffmfopaaRows
namespace Go.Proofs.Ytlhpcccffmfopaa
set_option linter.unusedSectionVars false
set_option linter.unusedSimpArgs false
set_option linter.unusedVariables false
set_option maxRecDepth 20000

theorem KZ_app {t u : List Ty} {a : Int} (ha : placeP t a) : KZ (t ++ u) a = KZ t a := by unfold KZ; rw [tyAt_app ha]
theorem szF_app {t u : List Ty} (hg : GoodP t) {a : Int} (hac : Acc (LZ t) a) : placeP t a → Acc (LZ (t ++ u)) a → szF (t ++ u) a = szF t a := by
  induction hac with
  | intro a hacc ih =>
  intro ha hac2
  have hk : ∀ y ∈ KZ t a, szF (t ++ u) y = szF t y := fun y hy => ih y hy (hg.kidZ ha hy) (hac2.inv (show LZ (t ++ u) y a by unfold LZ; rw [KZ_app ha]; exact hy))
  rw [szF_eq hac2, szF_eq ⟨a, hacc⟩]
  have h1 : szG (t ++ u) a (szF (t ++ u)) = szG (t ++ u) a (szF t) := szG_congr fun y hy => hk y (by rw [← KZ_app ha]; exact hy)
  rw [h1]
  unfold szG
  rw [tyAt_app ha]
  have h2 : (tyAt t a).form = 9 → ∀ n, endI (t ++ u) (szF t) n ((tyAt t a).fields.map Fd.typ) = endI t (szF t) n ((tyAt t a).fields.map Fd.typ) := fun f => by
    have hp : ∀ y ∈ (tyAt t a).fields.map Fd.typ, placeP t y := fun y hy => hg.kidZ ha (by unfold KZ; rw [if_neg (by omega), if_pos f]; exact List.mem_cons_of_mem _ hy)
    generalize (tyAt t a).fields.map Fd.typ = l at *
    clear h1
    induction l with
    | nil => intro n; rfl
    | cons y l ihl =>
      intro n
      have hy : atI (t ++ u) n y = atI t n y := by unfold atI; rw [tyAt_app (hp y (by simp))]
      simp only [endI, List.foldl_cons] at ihl ⊢
      rw [hy]
      exact ihl (fun z hz => hp z (by simp [hz])) _
  by_cases f : (tyAt t a).form = 9
  · rw [h2 f]
  · simp only [if_neg f]
def arrU (k : Nat) (L e : Int) : List Ty := [⟨7, se, se, L, e, 0, [], [], 0, 0⟩, ⟨9, ⟨#[90, 122]⟩, se, 0, 0, 0, [⟨⟨#[97]⟩, false, (k : Int)⟩], [], 0, -1⟩]
theorem Nm_2 (c d : UInt8) (h : letF (c.toNat : Nat) = true) (h' : letF (d.toNat : Nat) = true) : Nm ⟨#[c, d]⟩ := ⟨(by show 1 ≤ 2; omega), (by show 2 ≤ 24; omega), h, fun i hi => by
  have : i = 0 ∨ i = 1 := by
    have h1 : (⟨#[c, d]⟩ : ByteArray).size = 2 := rfl
    omega
  rcases this with rfl | rfl
  · exact .inl h
  · exact .inl h'⟩
section
variable {t : List Ty} {L e : Int} (h : GoodP t) (hl : t.length ≤ 250) (hL : 1 ≤ L ∧ L ≤ 4096) (he : placeP t e) (hf : (tyAt t e).form ≠ 0 ∧ (tyAt t e).form ≠ 5 ∧ (tyAt t e).form ≠ 6 ∧ (tyAt t e).form ≠ 8)
include h hl hL he hf
theorem form_rng : partP (tyAt t e).form := by
  rcases h.at_ he.1 he.2 with ⟨h7, q⟩ | ⟨h7, q⟩
  · rw [q] at hf ⊢
    have := he.1
    simp only [bt] at hf ⊢
    exact .inl (by omega)
  · have := FrmP.form q
    rcases this with k | k | k | k | k
    · exact .inr (.inl k)
    · exact absurd k hf.2.2.2
    · exact .inr (.inr (by omega))
    · exact .inr (.inr (by omega))
    · exact .inr (.inr (by omega))
theorem arr_new : NewP t (arrU t.length L e) := by
  have h7 := h.len.1
  have hu : (arrU t.length L e).length = 2 := rfl
  have hp : partP (formA t e) := by rw [show formA t e = (tyAt t e).form from if_pos he]; exact form_rng h hl hL he hf
  have fe : partP (formA (t ++ arrU t.length L e) e) := part_app hp
  have t0 : tyAt (t ++ arrU t.length L e) ((t.length : Int) + (0 : Nat)) = ⟨7, se, se, L, e, 0, [], [], 0, 0⟩ := by rw [tyAt_new]; rfl
  have f0 : formA (t ++ arrU t.length L e) (t.length : Int) = 7 := by
    rw [formA, if_pos ⟨by omega, by rw [List.length_append, hu]; omega⟩, show (t.length : Int) = (t.length : Int) + (0 : Nat) by omega, t0]
  have he1 := he.1
  have he2 := he.2
  refine ⟨by omega, fun i hi => ?_, fun i hi y hy => ?_, fun i hi h9 => ?_⟩
  · have : i = 0 ∨ i = 1 := by omega
    rcases this with rfl | rfl
    · exact ⟨.inl ⟨rfl, hL.1, hL.2, fe⟩, .inl ⟨rfl, rfl, show (7 : Int) ≠ 9 by decide⟩, ⟨rfl, rfl, rfl, rfl, rfl, rfl, rfl⟩⟩
    · refine ⟨.inr (.inr (.inl ⟨rfl, .inl rfl, show 1 ≤ 64 by decide, show (-1 : Int) ≤ -1 by decide, show (-1 : Int) < 64 by decide, fun f hf => ?_⟩)), .inr ⟨Nm_2 90 122 (by decide) (by decide), .inr ⟨rfl, rfl⟩⟩, ⟨rfl, rfl, rfl, rfl, rfl, rfl, rfl⟩⟩
      have hf : f ∈ [(⟨⟨#[97]⟩, false, (t.length : Int)⟩ : Fd)] := hf
      rw [List.mem_singleton.1 hf]
      exact ⟨Nm_1 97 (by decide), by rw [f0]; exact .inr (.inl rfl)⟩
  · have : i = 0 ∨ i = 1 := by omega
    rcases this with rfl | rfl
    · rw [kids_arr (.inl (by rw [tyAt_new]; rfl)), tyAt_new] at hy
      rw [List.mem_singleton.1 hy]
      show (0 : Int) ≤ e ∧ e < _
      omega
    · rw [kids_rec (by rw [tyAt_new]; rfl), tyAt_new] at hy
      have hy : y ∈ [(0 : Int), (t.length : Int)] := hy
      simp only [List.mem_cons, List.not_mem_nil, or_false] at hy
      omega
  · have : i = 0 ∨ i = 1 := by omega
    rcases this with rfl | rfl
    · exact absurd h9 (show (7 : Int) ≠ 9 by decide)
    · exact ⟨rfl, rfl, show ([⟨#[97]⟩] : List ByteArray).Nodup by decide⟩
/-- What the statement asks of the table with the array. -/
theorem arr_sz : szF (t ++ arrU t.length L e) e = szF t e ∧ szF (t ++ arrU t.length L e) t.length = cutI (upI (L * szF t e)) ∧ szF (t ++ arrU t.length L e) ((t.length : Int) + 1) = cutI (upI (L * szF t e)) ∧
    (cutI (upI (L * szF t e)) ≤ 32768 → offF (t ++ arrU t.length L e) ((t.length : Int) + 1) ⟨#[97]⟩ = (0, (t.length : Int), true)) := by
  have hg2 := h.app (arr_new h hl hL he hf)
  have hlen := h.len
  have hu : (t ++ arrU t.length L e).length = t.length + 2 := by rw [List.length_append]; rfl
  have t0 : tyAt (t ++ arrU t.length L e) (t.length : Int) = ⟨7, se, se, L, e, 0, [], [], 0, 0⟩ := by
    have := tyAt_new (t := t) (u := arrU t.length L e) (i := 0)
    rw [show (t.length : Int) + (0 : Nat) = t.length by omega] at this
    rw [this]; rfl
  have t1 : tyAt (t ++ arrU t.length L e) ((t.length : Int) + 1) = ⟨9, ⟨#[90, 122]⟩, se, 0, 0, 0, [⟨⟨#[97]⟩, false, (t.length : Int)⟩], [], 0, -1⟩ := tyAt_new (t := t) (u := arrU t.length L e) (i := 1)
  have p0 : placeP (t ++ arrU t.length L e) e := he.app
  have e1 : szF (t ++ arrU t.length L e) e = szF t e := szF_app h (accZ (h.acc _ he.1 he.2)) he (accZ (hg2.acc _ p0.1 p0.2))
  have hz := h.sz he
  obtain ⟨s, hs⟩ : ∃ s, s = t ++ arrU t.length L e := ⟨_, rfl⟩
  rw [← hs] at hg2 t0 t1 hu e1 p0 ⊢
  have pk : placeP s t.length := ⟨by omega, by omega⟩
  have rk : RecIn s ((t.length : Int) + 1) := ⟨by omega, by omega, by rw [t1]⟩
  have e2 : szF s t.length = cutI (upI (L * szF t e)) := by
    have := hg2.sz_arr pk (by rw [t0])
    rw [t0] at this
    simp only at this
    rw [this, e1]
  have hm0 : 0 ≤ L * szF t e := Int.mul_nonneg (by omega) hz.1
  have ty1 : typsL s ((t.length : Int) + 1) = [(t.length : Int)] := by rw [typsL, t1]; rfl
  have ha0 : atI s 0 (t.length : Int) = 0 := by rw [atI, t0, if_neg (show ¬ ((7 : Int) = 2 ∨ (7 : Int) = 3) by decide)]; decide
  have hf0 : fAt s ((t.length : Int) + 1) 0 = 0 := by
    rw [fAt, RR, ty1, t1, hg2.sz_0]
    exact ha0
  have hR1 : RR s ((t.length : Int) + 1) 1 = min (0 + szF s t.length) 32772 := by
    rw [RR_succ hg2 rk (i := 0) (by rw [t1]; show 0 < 1; omega), hf0, ty1]; rfl
  have e3 : szF s ((t.length : Int) + 1) = cutI (upI (L * szF t e)) := by
    rw [sz_RR hg2 rk, t1]
    show cutI (upI (RR s ((t.length : Int) + 1) 1)) = _
    rw [hR1, e2]
    generalize L * szF t e = m at *
    unfold cutI upI; omega
  refine ⟨e1, e2, e3, fun hle => ?_⟩
  obtain ⟨r, hr⟩ := chain_ne s 5 ((t.length : Int) + 1)
  rw [offF, if_pos ⟨hg2, rk, by rw [e3]; exact hle⟩, hr, offL_yes (i := 0) (by rw [t1]; show 0 < 1; omega) (by rw [t1]; rfl) (fun j hj => by omega), hf0, ty1]
  rfl
end
end Go.Proofs.Ytlhpcccffmfopaa

/- LayoutArrays. -/
namespace Go.Proofs.Ytlhpcccffmfopaa
set_option linter.unusedSimpArgs false
set_option linter.unusedVariables false
set_option maxRecDepth 20000
set_option maxHeartbeats 4000000
open Go.RowKit

theorem lenL (n : Int) : 1 ≤ IntKind.i64.wrap (1 + IntKind.i64.wrap ((IntKind.u64.wrap n).tmod 4096)) ∧ IntKind.i64.wrap (1 + IntKind.i64.wrap ((IntKind.u64.wrap n).tmod 4096)) ≤ 4096 := by
  have e : IntKind.u64.wrap n = n % 18446744073709551616 := by simp [IntKind.wrap, IntKind.bits, IntKind.signed]
  have h0 : 0 ≤ n % 18446744073709551616 := Int.emod_nonneg _ (by decide)
  rw [e, Int.tmod_eq_emod_of_nonneg h0]
  rw [w_i64 (x := n % 18446744073709551616 % 4096) (by omega) (by omega), w_i64 (by omega) (by omega)]
  omega
theorem TT.arr {t : List Ty} (h : TT t) (hl : t.length ≤ 250) (L e : Int) : TT (t ++ arrU t.length L e) := by
  have hse : se.size = 0 := rfl
  have hu : ∀ x ∈ arrU t.length L e, x.fields.length ≤ 1 ∧ x.params = [] ∧ x.mod.size ≤ 2 ∧ x.name = se ∧ ∀ f ∈ x.fields, f.name.size ≤ 1 := fun x hx => by
    simp only [arrU, List.mem_cons, List.not_mem_nil, or_false] at hx
    rcases hx with rfl | rfl
    · exact ⟨by show 0 ≤ 1; omega, rfl, by show 0 ≤ 2; omega, rfl, fun f hf => by cases hf⟩
    · refine ⟨by show 1 ≤ 1; omega, rfl, by show 2 ≤ 2; omega, rfl, fun f hf => ?_⟩
      have hf : f ∈ [(⟨⟨#[97]⟩, false, (t.length : Int)⟩ : Fd)] := hf
      rw [List.mem_singleton.1 hf]
      show 1 ≤ 1; omega
  have hul : (arrU t.length L e).length = 2 := rfl
  refine ⟨⟨by rw [List.length_append, hul]; omega, fun x hx => ?_⟩, fun x hx f hf => ?_, ⟨by rw [List.length_append, hul]; omega, fun x hx => ?_⟩⟩
  · rcases List.mem_append.1 hx with hx | hx
    · exact h.s.2 x hx
    · obtain ⟨h1, h2, h3, h4, _⟩ := hu x hx
      rw [h2, h4, hse]; exact ⟨by omega, by simp, by omega, by omega⟩
  · rcases List.mem_append.1 hx with hx | hx
    · exact h.n x hx f hf
    · have := (hu x hx).2.2.2.2 f hf; omega
  · rcases List.mem_append.1 hx with hx | hx
    · exact h.k.2 x hx
    · obtain ⟨h1, h2, h3, h4, _⟩ := hu x hx
      refine ⟨by omega, by rw [h2]; decide, by omega, by rw [h4, hse]; omega⟩
theorem LayoutArrays_c {t : List Ty} (hk : TOk t) (hn : FNames t) (e n : Int) (ie : -9223372036854775808 ≤ n ∧ n < 9223372036854775808) (H : List ABlk) : ACalls Try.prog 11 [tv t, iv e, iv n] H fun v H' => v = bv true ∧ H' = H := by
  refine ACalls.into Try.func11 cc11 rr11 fun hcl => ?_
  have fin : ∀ l, Ret r11 H.length (fun v H' => v = bv true ∧ H' = H) (some (bv true)) (H ++ l) := fun l => Ret.drop (bv true) H (Nat.le_refl _) hcl (.rfl _) (by simp [refs]) ⟨rfl, rfl⟩
  have fin0 : Ret r11 H.length (fun v H' => v = bv true ∧ H' = H) (some (bv true)) H := Ret.keep ⟨rfl, rfl⟩
  simp (maxSteps := 2000000) (disch := omega) only [Try.ntmps11, c11, r11, go_sem, eq_self, if_true, if_false, reduceCtorEq, Int.reduceToNat, Int.reducePow, Nat.reducePow, Nat.reduceMul, Int.reduceLT, Int.reduceLE, Nat.reduceAdd, Nat.reduceLeDiff, Nat.reduceBEq, Nat.reduceSub, Int.reduceSub, Int.reduceMul, Int.reduceNeg, Int.reduceAdd]
  refine Cont.rel (large_c hk _) ?_
  rintro v H' ⟨⟨B, rfl, hB⟩, rfl⟩
  cases B
  rotate_left
  · simp (maxSteps := 2000000) (disch := omega) only [go_sem, eq_self, if_true, if_false, reduceCtorEq, Int.reduceToNat, Int.reducePow, Nat.reducePow, Nat.reduceMul, Int.reduceLT, Int.reduceLE, Nat.reduceAdd, Nat.reduceLeDiff, Nat.reduceBEq, Nat.reduceSub, Int.reduceSub, Int.reduceMul, Int.reduceNeg, Int.reduceAdd]
    refine Cont.mk (lwakes_c _) ?_
    simp (maxSteps := 2000000) (disch := omega) only [go_sem, eq_self, if_true, if_false, reduceCtorEq, Int.reduceToNat, Int.reducePow, Nat.reducePow, Nat.reduceMul, Int.reduceLT, Int.reduceLE, Nat.reduceAdd, Nat.reduceLeDiff, Nat.reduceBEq, Nat.reduceSub, Int.reduceSub, Int.reduceMul, Int.reduceNeg, Int.reduceAdd]
    exact fin0
  have hs := hB rfl
  have htt : TT t := ⟨hs, hn, hk⟩
  have hlen := hs.1
  simp (maxSteps := 2000000) (disch := omega) only [go_sem, eq_self, if_true, if_false, reduceCtorEq, Int.reduceToNat, Int.reducePow, Nat.reducePow, Nat.reduceMul, Int.reduceLT, Int.reduceLE, Nat.reduceAdd, Nat.reduceLeDiff, Nat.reduceBEq, Nat.reduceSub, Int.reduceSub, Int.reduceMul, Int.reduceNeg, Int.reduceAdd]
  refine Cont.mk (rgood_c hs hn hk _) ?_
  by_cases hg : GoodP t
  rotate_left
  · rw [good_f hg]
    simp (maxSteps := 2000000) (disch := omega) only [go_sem, eq_self, if_true, if_false, reduceCtorEq, Int.reduceToNat, Int.reducePow, Nat.reducePow, Nat.reduceMul, Int.reduceLT, Int.reduceLE, Nat.reduceAdd, Nat.reduceLeDiff, Nat.reduceBEq, Nat.reduceSub, Int.reduceSub, Int.reduceMul, Int.reduceNeg, Int.reduceAdd]
    refine Cont.mk (lwakes_c _) ?_
    simp (maxSteps := 2000000) (disch := omega) only [go_sem, eq_self, if_true, if_false, reduceCtorEq, Int.reduceToNat, Int.reducePow, Nat.reducePow, Nat.reduceMul, Int.reduceLT, Int.reduceLE, Nat.reduceAdd, Nat.reduceLeDiff, Nat.reduceBEq, Nat.reduceSub, Int.reduceSub, Int.reduceMul, Int.reduceNeg, Int.reduceAdd]
    exact fin0
  rw [good_t hg]
  by_cases hl : t.length ≤ 250
  rotate_left
  · simp (maxSteps := 2000000) (disch := omega) only [List.length_map, go_sem, eq_self, if_true, if_false, reduceCtorEq, Int.reduceToNat, Int.reducePow, Nat.reducePow, Nat.reduceMul, Int.reduceLT, Int.reduceLE, Nat.reduceAdd, Nat.reduceLeDiff, Nat.reduceBEq, Nat.reduceSub, Int.reduceSub, Int.reduceMul, Int.reduceNeg, Int.reduceAdd]
    refine Cont.mk (lwakes_c _) ?_
    simp (maxSteps := 2000000) (disch := omega) only [go_sem, eq_self, if_true, if_false, reduceCtorEq, Int.reduceToNat, Int.reducePow, Nat.reducePow, Nat.reduceMul, Int.reduceLT, Int.reduceLE, Nat.reduceAdd, Nat.reduceLeDiff, Nat.reduceBEq, Nat.reduceSub, Int.reduceSub, Int.reduceMul, Int.reduceNeg, Int.reduceAdd]
    exact fin0
  by_cases e0 : e < 0
  · simp (maxSteps := 2000000) (disch := omega) only [List.length_map, go_sem, eq_self, if_true, if_false, reduceCtorEq, Int.reduceToNat, Int.reducePow, Nat.reducePow, Nat.reduceMul, Int.reduceLT, Int.reduceLE, Nat.reduceAdd, Nat.reduceLeDiff, Nat.reduceBEq, Nat.reduceSub, Int.reduceSub, Int.reduceMul, Int.reduceNeg, Int.reduceAdd]
    refine Cont.mk (lwakes_c _) ?_
    simp (maxSteps := 2000000) (disch := omega) only [go_sem, eq_self, if_true, if_false, reduceCtorEq, Int.reduceToNat, Int.reducePow, Nat.reducePow, Nat.reduceMul, Int.reduceLT, Int.reduceLE, Nat.reduceAdd, Nat.reduceLeDiff, Nat.reduceBEq, Nat.reduceSub, Int.reduceSub, Int.reduceMul, Int.reduceNeg, Int.reduceAdd]
    exact fin0
  by_cases e1 : e < t.length
  rotate_left
  · simp (maxSteps := 2000000) (disch := omega) only [List.length_map, go_sem, eq_self, if_true, if_false, reduceCtorEq, Int.reduceToNat, Int.reducePow, Nat.reducePow, Nat.reduceMul, Int.reduceLT, Int.reduceLE, Nat.reduceAdd, Nat.reduceLeDiff, Nat.reduceBEq, Nat.reduceSub, Int.reduceSub, Int.reduceMul, Int.reduceNeg, Int.reduceAdd]
    refine Cont.mk (lwakes_c _) ?_
    simp (maxSteps := 2000000) (disch := omega) only [go_sem, eq_self, if_true, if_false, reduceCtorEq, Int.reduceToNat, Int.reducePow, Nat.reducePow, Nat.reduceMul, Int.reduceLT, Int.reduceLE, Nat.reduceAdd, Nat.reduceLeDiff, Nat.reduceBEq, Nat.reduceSub, Int.reduceSub, Int.reduceMul, Int.reduceNeg, Int.reduceAdd]
    exact fin0
  have he : placeP t e := ⟨by omega, e1⟩
  have iax := iaA_ty (t := t) he.1 he.2
  have hop := @arr_sz t
  have hnw := @arr_new t
  by_cases hf : (tyAt t e).form ≠ 0 ∧ (tyAt t e).form ≠ 5 ∧ (tyAt t e).form ≠ 6 ∧ (tyAt t e).form ≠ 8
  rotate_left
  · have hf' : (tyAt t e).form = 0 ∨ (tyAt t e).form = 5 ∨ (tyAt t e).form = 6 ∨ (tyAt t e).form = 8 := by omega
    generalize tyAt t e = x at *
    rcases hf' with f | f | f | f <;> (
      simp (maxSteps := 2000000) (disch := omega) only [List.length_map, iax, Ty.c, f, go_sem, eq_self, if_true, if_false, reduceCtorEq, Int.reduceToNat, Int.reducePow, Nat.reducePow, Nat.reduceMul, Int.reduceLT, Int.reduceLE, Nat.reduceAdd, Nat.reduceLeDiff, Nat.reduceBEq, Nat.reduceSub, Int.reduceSub, Int.reduceMul, Int.reduceNeg, Int.reduceAdd]
      refine Cont.mk (lwakes_c _) ?_
      simp (maxSteps := 2000000) (disch := omega) only [go_sem, eq_self, if_true, if_false, reduceCtorEq, Int.reduceToNat, Int.reducePow, Nat.reducePow, Nat.reduceMul, Int.reduceLT, Int.reduceLE, Nat.reduceAdd, Nat.reduceLeDiff, Nat.reduceBEq, Nat.reduceSub, Int.reduceSub, Int.reduceMul, Int.reduceNeg, Int.reduceAdd]
      exact fin0)
  simp (maxSteps := 2000000) (disch := omega) only [List.length_map, iax, Ty.c, go_sem, eq_self, if_true, if_false, reduceCtorEq, Int.reduceToNat, Int.reducePow, Nat.reducePow, Nat.reduceMul, Int.reduceLT, Int.reduceLE, Nat.reduceAdd, Nat.reduceLeDiff, Nat.reduceBEq, Nat.reduceSub, Int.reduceSub, Int.reduceMul, Int.reduceNeg, Int.reduceAdd]
  refine Cont.mk (copy_c hs _) ?_
  simp (maxSteps := 2000000) (disch := omega) only [List.length_map, go_sem, eq_self, if_true, if_false, reduceCtorEq, Int.reduceToNat, Int.reducePow, Nat.reducePow, Nat.reduceMul, Int.reduceLT, Int.reduceLE, Nat.reduceAdd, Nat.reduceLeDiff, Nat.reduceBEq, Nat.reduceSub, Int.reduceSub, Int.reduceMul, Int.reduceNeg, Int.reduceAdd]
  obtain ⟨hL1, hL2⟩ := lenL n
  generalize IntKind.i64.wrap (1 + IntKind.i64.wrap ((IntKind.u64.wrap n).tmod 4096)) = L at *
  have hm : t.map Ty.c ++ [[.v (.int .i64 7), .v (.string se), .v (.string se), .v (.int .i64 L), .v (.int .i64 e), .v (.int .i64 0), .sl [], .sl [], .v (.int .i64 0), .v (.int .i64 0)], [.v (.int .i64 9), .v (.string ⟨#[90, 122]⟩), .v (.string se), .v (.int .i64 0), .v (.int .i64 0), .v (.int .i64 0), .sl [[.v (.string ⟨#[97]⟩), .v (.bool false), .v (.int .i64 t.length)]], .sl [], .v (.int .i64 0), .v (.int .i64 (-1))]] = (t ++ arrU t.length L e).map Ty.c := by rw [List.map_append]; rfl
  rw [hm]
  obtain ⟨z1, z2, z3, z4⟩ := hop hg hl ⟨hL1, hL2⟩ he hf
  have hg2 := hg.app (hnw hg hl ⟨hL1, hL2⟩ he hf)
  have htt2 := htt.arr hl L e
  have hsl : (t ++ arrU t.length L e).length = t.length + 2 := by rw [List.length_append]; rfl
  have hz := hg.sz he
  have h7 := hg.len.1
  clear hop hnw hm iax hf
  generalize t ++ arrU t.length L e = s at *
  generalize (tyAt t e).form = f at *
  generalize szF t e = z at *
  have m0 : 0 ≤ L * z := Int.mul_nonneg (by omega) hz.1
  have m1 : L * z ≤ 4096 * 32769 := Int.mul_le_mul hL2 hz.2 hz.1 (by decide)
  have m2 : z ≤ L * z := by
    have := Int.mul_le_mul_of_nonneg_right hL1 hz.1
    omega
  have hmc : z * L = L * z := Int.mul_comm ..
  generalize L * z = m at *
  have pe : placeP s e := ⟨he.1, by have := he.2; omega⟩
  have pk : placeP s t.length := ⟨by omega, by omega⟩
  have pk1 : placeP s ((t.length : Int) + 1) := ⟨by omega, by omega⟩
  have ls : ∀ a n, placeP s a → szF s a = n → ∀ B H, ACalls Try.prog 26 [.gsl B 10 (s.map Ty.c), iv a] H fun v' H' => v' = iv n ∧ H' = H := fun a n ha e B H => by
    have := (lsize_c htt2 a H).weak (args := [.gsl B 10 (s.map Ty.c), iv a]) (.cons (.gsl _ _ _) (.cons (.rfl _) .nil))
    rwa [szL, if_pos ⟨hg2, ha⟩, e] at this
  have l1 := ls _ _ pe z1
  have l2 := ls _ _ pk z2
  have l3 := ls _ _ pk1 z3
  have lo : ∀ B H, ACalls Try.prog 28 [.gsl B 10 (s.map Ty.c), iv ((t.length : Int) + 1), sv ⟨#[97]⟩] H fun v H' => v = offV (offF s ((t.length : Int) + 1) ⟨#[97]⟩) ∧ H' = H := fun B H => (loff_c htt2 _ _ H).weak (.cons (.gsl _ _ _) (.cons (.rfl _) (.cons (.rfl _) .nil)))
  have hq : (m + 3).tdiv 4 = (m + 3) / 4 := Int.tdiv_eq_ediv_of_nonneg (by omega)
  have hup : (m + 3) / 4 * 4 = upI m := rfl
  have hur := up_ge m0
  refine Cont.mk (l1 _ _) ?_
  simp (maxSteps := 2000000) (disch := omega) only [go_sem, eq_self, if_true, if_false, reduceCtorEq, Int.reduceToNat, Int.reducePow, Nat.reducePow, Nat.reduceMul, Int.reduceLT, Int.reduceLE, Nat.reduceAdd, Nat.reduceLeDiff, Nat.reduceBEq, Nat.reduceSub, Int.reduceSub, Int.reduceMul, Int.reduceNeg, Int.reduceAdd]
  refine Cont.mk (l2 _ _) ?_
  simp (maxSteps := 2000000) (disch := omega) only [hmc, hq, go_sem, eq_self, if_true, if_false, reduceCtorEq, Int.reduceToNat, Int.reducePow, Nat.reducePow, Nat.reduceMul, Int.reduceLT, Int.reduceLE, Nat.reduceAdd, Nat.reduceLeDiff, Nat.reduceBEq, Nat.reduceSub, Int.reduceSub, Int.reduceMul, Int.reduceNeg, Int.reduceAdd]
  by_cases hb : upI m ≤ 32768
  rotate_left
  · have hw : cutI (upI m) = 32769 := by unfold cutI; omega
    rw [hw] at l3 ⊢
    rw [hup]
    simp (maxSteps := 2000000) (disch := omega) only [go_sem, eq_self, if_true, if_false, reduceCtorEq, Int.reduceToNat, Int.reducePow, Nat.reducePow, Nat.reduceMul, Int.reduceLT, Int.reduceLE, Nat.reduceAdd, Nat.reduceLeDiff, Nat.reduceBEq, Nat.reduceSub, Int.reduceSub, Int.reduceMul, Int.reduceNeg, Int.reduceAdd]
    refine Cont.mk (l3 _ _) ?_
    simp (maxSteps := 2000000) (disch := omega) only [go_sem, eq_self, if_true, if_false, reduceCtorEq, Int.reduceToNat, Int.reducePow, Nat.reducePow, Nat.reduceMul, Int.reduceLT, Int.reduceLE, Nat.reduceAdd, Nat.reduceLeDiff, Nat.reduceBEq, Nat.reduceSub, Int.reduceSub, Int.reduceMul, Int.reduceNeg, Int.reduceAdd]
    refine Cont.mk (lwakes_c _) ?_
    simp (maxSteps := 2000000) (disch := omega) only [go_sem, eq_self, if_true, if_false, reduceCtorEq, Int.reduceToNat, Int.reducePow, Nat.reducePow, Nat.reduceMul, Int.reduceLT, Int.reduceLE, Nat.reduceAdd, Nat.reduceLeDiff, Nat.reduceBEq, Nat.reduceSub, Int.reduceSub, Int.reduceMul, Int.reduceNeg, Int.reduceAdd]
    exact fin _
  · have hw : cutI (upI m) = upI m := by unfold cutI; omega
    rw [hw] at l3 z4 ⊢
    rw [z4 hb] at lo
    rw [hup]
    have e2 : decide (upI m = upI m) = true := dect rfl
    simp (maxSteps := 2000000) (disch := omega) only [go_sem, eq_self, if_true, if_false, reduceCtorEq, Int.reduceToNat, Int.reducePow, Nat.reducePow, Nat.reduceMul, Int.reduceLT, Int.reduceLE, Nat.reduceAdd, Nat.reduceLeDiff, Nat.reduceBEq, Nat.reduceSub, Int.reduceSub, Int.reduceMul, Int.reduceNeg, Int.reduceAdd]
    refine Cont.mk (lo _ _) ?_
    simp (maxSteps := 2000000) (disch := omega) only [e2, go_sem, eq_self, if_true, if_false, reduceCtorEq, Int.reduceToNat, Int.reducePow, Nat.reducePow, Nat.reduceMul, Int.reduceLT, Int.reduceLE, Nat.reduceAdd, Nat.reduceLeDiff, Nat.reduceBEq, Nat.reduceSub, Int.reduceSub, Int.reduceMul, Int.reduceNeg, Int.reduceAdd]
    refine Cont.mk (l3 _ _) ?_
    simp (maxSteps := 2000000) (disch := omega) only [e2, go_sem, eq_self, if_true, if_false, reduceCtorEq, Int.reduceToNat, Int.reducePow, Nat.reducePow, Nat.reduceMul, Int.reduceLT, Int.reduceLE, Nat.reduceAdd, Nat.reduceLeDiff, Nat.reduceBEq, Nat.reduceSub, Int.reduceSub, Int.reduceMul, Int.reduceNeg, Int.reduceAdd]
    refine Cont.mk (lwakes_c _) ?_
    simp (maxSteps := 2000000) (disch := omega) only [go_sem, eq_self, if_true, if_false, reduceCtorEq, Int.reduceToNat, Int.reducePow, Nat.reducePow, Nat.reduceMul, Int.reduceLT, Int.reduceLE, Nat.reduceAdd, Nat.reduceLeDiff, Nat.reduceBEq, Nat.reduceSub, Int.reduceSub, Int.reduceMul, Int.reduceNeg, Int.reduceAdd]
    exact fin _
end Go.Proofs.Ytlhpcccffmfopaa

/- The arguments of the rows. -/
namespace Go.Proofs.Ytlhpcccffmfopaa
open Go.ChangeShapes Go.WideShapes Go.ChangeAt Go.RowKit
theorem Try.laidOut : laidOutB Try.prog = true := by kernel_rfl
theorem Try.own : ownKnob Try.prog.godebug = none := by kernel_rfl
def argL : List TypeId := [22, 32, 29, 48, 30, 36, 3, 9, 4, 42]
theorem argL_ok : dataB Try.prog argL = true := by kernel_rfl
abbrev I64 (n : Int) : Prop := -9223372036854775808 ≤ n ∧ n < 9223372036854775808
theorem read_list {α : Type} [Inhabited α] (f : α → List Dat) (Ok : α → Prop) {es : List (List Dat)} (h : ∀ c ∈ es, ∃ s, c = f s ∧ Ok s) : ∃ l : List α, es = l.map f ∧ ∀ s ∈ l, Ok s := by
  have key : ∀ c : List Dat, ∃ s : α, c ∈ es → c = f s ∧ Ok s := fun c => by
    by_cases hc : c ∈ es
    · obtain ⟨s, e, hs⟩ := h c hc
      exact ⟨s, fun _ => ⟨e, hs⟩⟩
    · exact ⟨default, fun h => absurd h hc⟩
  obtain ⟨F, hF⟩ := Classical.axiomOfChoice key
  refine ⟨es.map F, ?_, fun x hx => ?_⟩
  · rw [List.map_map]
    symm
    conv => rhs; rw [← List.map_id es]
    exact List.map_congr_left fun c hc => ((hF c hc).1).symm
  · obtain ⟨c, hc, rfl⟩ := List.mem_map.1 hx
    exact (hF c hc).2
def Fd.In (f : Fd) : Prop := f.name.size ≤ 140737488355328 ∧ I64 f.typ
def Pm.In (p : Pm) : Prop := I64 p.typ
structure Ty.In (x : Ty) : Prop where
  ok : x.Ok
  form : I64 x.form
  len : I64 x.len
  elem : I64 x.elem
  base : I64 x.base
  result : I64 x.result
  desc : I64 x.desc
  fd : ∀ f ∈ x.fields, f.In
  pm : ∀ p ∈ x.params, p.In
theorem read_fd {c : List Dat} (h : TyD Try.prog 48 c) : ∃ s : Fd, c = s.c ∧ s.In := by
  obtain ⟨parts, rfl, hl, hp⟩ := h.st_inv Try.underlying48
  match parts, hl with
  | [p0, p1, p2], _ =>
    obtain ⟨n0, rfl, h0⟩ := (hp 0 _ _ rfl rfl).str_inv Try.underlying9
    obtain ⟨n1, rfl⟩ := (hp 1 _ _ rfl rfl).bool_inv Try.underlying4
    obtain ⟨n2, rfl, h2⟩ := (hp 2 _ _ rfl rfl).int_inv Try.underlying3
    exact ⟨⟨n0, n1, n2⟩, rfl, h0, wf_i64 h2⟩
theorem read_pm {c : List Dat} (h : TyD Try.prog 36 c) : ∃ s : Pm, c = s.c ∧ s.In := by
  obtain ⟨parts, rfl, hl, hp⟩ := h.st_inv Try.underlying36
  match parts, hl with
  | [p0, p1], _ =>
    obtain ⟨n0, rfl⟩ := (hp 0 _ _ rfl rfl).bool_inv Try.underlying4
    obtain ⟨n1, rfl, h1⟩ := (hp 1 _ _ rfl rfl).int_inv Try.underlying3
    exact ⟨⟨n0, n1⟩, rfl, wf_i64 h1⟩
theorem len_le {n e : Nat} (hb : 1 ≤ Try.prog.bytesOf e) (h : n * Try.prog.bytesOf e ≤ 140737488355328) : n ≤ 140737488355328 := Nat.le_trans (Nat.le_mul_of_pos_right n hb) h
theorem b48 : 1 ≤ Try.prog.bytesOf 48 := of_decide_eq_true (by kernel_rfl)
theorem b36 : 1 ≤ Try.prog.bytesOf 36 := of_decide_eq_true (by kernel_rfl)
theorem b32 : 1 ≤ Try.prog.bytesOf 32 := of_decide_eq_true (by kernel_rfl)
theorem read_ty1 {c : List Dat} (h : TyD Try.prog 32 c) : ∃ s : Ty, c = s.c ∧ s.In := by
  obtain ⟨parts, rfl, hl, hp⟩ := h.st_inv Try.underlying32
  match parts, hl with
  | [p0, p1, p2, p3, p4, p5, p6, p7, p8, p9], _ =>
    obtain ⟨n0, rfl, h0⟩ := (hp 0 _ _ rfl rfl).int_inv Try.underlying3
    obtain ⟨n1, rfl, h1⟩ := (hp 1 _ _ rfl rfl).str_inv Try.underlying9
    obtain ⟨n2, rfl, h2⟩ := (hp 2 _ _ rfl rfl).str_inv Try.underlying9
    obtain ⟨n3, rfl, h3⟩ := (hp 3 _ _ rfl rfl).int_inv Try.underlying3
    obtain ⟨n4, rfl, h4⟩ := (hp 4 _ _ rfl rfl).int_inv Try.underlying3
    obtain ⟨n5, rfl, h5⟩ := (hp 5 _ _ rfl rfl).int_inv Try.underlying3
    obtain ⟨n6, rfl, ⟨_, h6⟩, g6⟩ := (hp 6 _ _ rfl rfl).sl_inv Try.underlying29
    obtain ⟨n7, rfl, ⟨_, h7⟩, g7⟩ := (hp 7 _ _ rfl rfl).sl_inv Try.underlying30
    obtain ⟨n8, rfl, h8⟩ := (hp 8 _ _ rfl rfl).int_inv Try.underlying3
    obtain ⟨n9, rfl, h9⟩ := (hp 9 _ _ rfl rfl).int_inv Try.underlying3
    obtain ⟨fl, rfl, gf⟩ := read_list Fd.c Fd.In fun c hc => read_fd (g6 c hc)
    obtain ⟨pl, rfl, gp⟩ := read_list Pm.c Pm.In fun c hc => read_pm (g7 c hc)
    rw [List.length_map] at h6 h7
    exact ⟨⟨n0, n1, n2, n3, n4, n5, fl, pl, n8, n9⟩, rfl, ⟨len_le b48 h6, len_le b36 h7, h1, h2⟩, wf_i64 h0, wf_i64 h3, wf_i64 h4, wf_i64 h5, wf_i64 h8, wf_i64 h9, gf, gp⟩
theorem read_tab {a : AV} (h : ArgD Try.prog 22 a) : ∃ t : List Ty, a = tv t ∧ TOk t ∧ FNames t ∧ ∀ x ∈ t, x.In := by
  obtain ⟨es, rfl, hl, he⟩ := h.sl Try.underlying22
  obtain ⟨t, rfl, ht⟩ := read_list Ty.c Ty.In fun c hc => read_ty1 (he c hc)
  have h1 := hl.2
  rw [List.length_map] at h1
  exact ⟨t, rfl, ⟨len_le b32 h1, fun x hx => (ht x hx).ok⟩, fun x hx f hf => ((ht x hx).fd f hf).1, ht⟩
end Go.Proofs.Ytlhpcccffmfopaa

/- LayoutArrays, of any argument. -/
namespace Go.Proofs.Ytlhpcccffmfopaa
open Go.ChangeShapes Go.WideShapes Go.ChangeAt Go.RowKit
theorem layoutArrays_any {a0 a1 a2 : AV} (h0 : ArgD Try.prog 22 a0) (h1 : ArgD Try.prog 3 a1) (h2 : ArgD Try.prog 3 a2) (v0 v1 v2 : Value) (W : World) (hv : VRs ⟨W.cell?, fun _ _ => none⟩ [a0, a1, a2] [v0, v1, v2]) :
    Calls Try.prog 11 #[v0, v1, v2] W fun e w' => e = .returned (.bool true) ∧ Below W.heap.size W w' := by
  obtain ⟨t, rfl, g1, g2, _⟩ := read_tab h0
  obtain ⟨x, rfl, _⟩ := h1.int Try.underlying3
  obtain ⟨y, rfl, hy⟩ := h2.int Try.underlying3
  exact (LayoutArrays_c g1 g2 x y (wf_i64 hy) []).law (fun a v h => h) hv
end Go.Proofs.Ytlhpcccffmfopaa

/- The row LayoutArrays, proved. -/
namespace Go.Proofs.Ytlhpcccffmfopaa
open Go.ChangeShapes Go.WideShapes Go.ChangeAt Go.RowKit

set_option maxRecDepth 100000 in
theorem layoutArrays_lifted (os : Os) (started : os.Started) (H : Type) (enc : TypeId × Value → H) :
    ReturnsInHanded {} Try.checked os 11 .any (Rows.layoutArraysSpec.pre6 enc Try.prog Try.f11 Rows.layoutArraysRow.domain false) (Rows.layoutArraysSpec.post enc Try.prog Try.f11 false true false false) := by
  refine returnsInHanded_of_change_sized (C := Try.checked) Try.own started (by kernel_rfl) Try.func11
    (ChangeSpec.witness6 (enc := enc) (C := Try.checked) false ⟨#[], #[.slice none 0 0, .int .i64 0, .int .i64 0], []⟩ 8 (by kernel_rfl) (by kernel_rfl) (by kernel_rfl) (by kernel_rfl)) ?_
  intro W base args ds gs before hval0 hW hcnd hsz _
  have hval : ∀ (j : Nat) t v, Try.f11.params[j]? = some t → args[j]? = some v → Value.okWide Try.prog W .any base t v := hval0
  have hW' := hW
  obtain ⟨p, q, hA0, hV, rfl, hfz, hnd⟩ := hW
  have hA : DataW.TrodAll enc Try.prog W 0 (fun _ => true) true Try.f11.params.toList args.toList ds p := hA0
  rw [Try.params11] at hA hval hsz
  obtain ⟨v0, v1, v2, d0, d1, d2, p0, p1, p2, rfl, rfl, rfl, h0, h1, h2⟩ := trodAll_three hA
  obtain ⟨rfl, rfl⟩ := trodVars_none hV
  obtain ⟨a0, ha0, hr0⟩ := read_val argL_ok (by decide) (hval 0 22 v0 rfl rfl) h0 (fun n hn => of_decide_eq_true (List.all_eq_true.1 hsz n (DataW.weights_mem_each (j := 0) rfl rfl n hn)))
  obtain ⟨a1, ha1, hr1⟩ := read_val argL_ok (by decide) (hval 1 3 v1 rfl rfl) h1 (fun n hn => of_decide_eq_true (List.all_eq_true.1 hsz n (DataW.weights_mem_each (j := 1) rfl rfl n hn)))
  obtain ⟨a2, ha2, hr2⟩ := read_val argL_ok (by decide) (hval 2 3 v2 rfl rfl) h2 (fun n hn => of_decide_eq_true (List.all_eq_true.1 hsz n (DataW.weights_mem_each (j := 2) rfl rfl n hn)))
  clear hA0 hval0
  simp only [List.append_nil] at hW'
  have hlt := hW'.lt
  refine (layoutArrays_any ha0 ha1 ha2 v0 v1 v2 W (.cons hr0 (.cons hr1 (.cons hr2 .nil)))).mono fun e W' ⟨he, hw⟩ => ?_
  subst he
  exact ⟨_, rfl, post_of_below (pa := p0 ++ (p1 ++ p2)) (pv := []) hW' (fun _ _ _ => trodAll_mk1 (shut_bool Try.underlying4 _)) (fun sp hsp => trodAll_mk3 (WideElems.Trod_stays Try.laidOut (by kernel_rfl) (of_decide_eq_true (by kernel_rfl)) h0 (fun x hx => hw.same (hlt x (by simp [hx]))) (fun x hx => hsp x (by simp [hx]))) (WideElems.Trod_stays Try.laidOut (by kernel_rfl) (of_decide_eq_true (by kernel_rfl)) h1 (fun x hx => hw.same (hlt x (by simp [hx]))) (fun x hx => hsp x (by simp [hx]))) (WideElems.Trod_stays Try.laidOut (by kernel_rfl) (of_decide_eq_true (by kernel_rfl)) h2 (fun x hx => hw.same (hlt x (by simp [hx]))) (fun x hx => hsp x (by simp [hx])))) (fun _ _ => rfl) (by simp)
    hw (ok_one (by kernel_rfl) rfl (okWide_bool_mk Try.underlying4 _))⟩

theorem layoutArrays_holds : Rows.LayoutArraysSaid :=
  OpenClaim.holds_of_wide 11 Try.f11 rfl rfl rfl rfl rfl rfl rfl ⟨rfl, rfl, rfl, rfl, rfl⟩ rfl rfl rfl rfl rfl (by kernel_rfl) Try.func11 (by kernel_rfl)
    (of_decide_eq_true (by kernel_rfl)) (by unfold Func.isWrapper; first | (rw [if_pos (by decide +kernel)]; kernel_rfl) | (rw [if_neg (by decide +kernel)]; exact ⟨rfl, rfl⟩))
    (fun os started H enc _ => layoutArrays_lifted os started H enc)
end Go.Proofs.Ytlhpcccffmfopaa
