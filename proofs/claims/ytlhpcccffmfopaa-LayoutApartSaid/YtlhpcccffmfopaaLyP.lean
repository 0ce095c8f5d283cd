/- Plain law: fields lie apart. -/
import Derived.Test.YtlhpcccffmfopaaLyA
import Derived.Test.YtlhpcccffmfopaaLyB
import Derived.Test.YtlhpcccffmfopaaRead
import Derived.Test.YtlhpcccffmfopaaP3
import Derived.Test.YtlhpcccffmfopaaRows
namespace Go.Proofs.Ytlhpcccffmfopaa
set_option linter.unusedSectionVars false
set_option linter.unusedSimpArgs false
set_option linter.unusedVariables false

theorem offL_at {t : List Ty} : ∀ {L : List Int} {i j : Nat}, (namesL t L).Nodup → i < L.length → j < (tyAt t (L.getD i 0)).fields.length →
    offL t ((tyAt t (L.getD i 0)).fields.getD j default).name L = (fAt t (L.getD i 0) j, (typsL t (L.getD i 0)).getD j 0, true)
  | [], i, j, _, hi, _ => absurd hi (by simp)
  | a :: L, 0, j, hn, _, hj => by
    simp only [List.getD_cons_zero] at hj ⊢
    refine offL_yes hj rfl fun k hk e => ?_
    have h1 : ((tyAt t a).fields.map Fd.name).Nodup := by
      simp only [namesL, List.flatMap_cons, List.nodup_append] at hn
      exact hn.1
    have ek : ∀ m (hm : m < (tyAt t a).fields.length), ((tyAt t a).fields.getD m default).name = ((tyAt t a).fields.map Fd.name)[m]'(by rw [List.length_map]; exact hm) := fun m hm => by
      rw [List.getElem_map, List.getD_eq_getElem?_getD, List.getElem?_eq_getElem hm]; rfl
    rw [ek k (by omega), ek j hj] at e
    exact List.pairwise_iff_getElem.1 h1 k j (by rw [List.length_map]; omega) (by rw [List.length_map]; exact hj) hk e
  | a :: L, i + 1, j, hn, hi, hj => by
    simp only [List.getD_cons_succ] at hj ⊢
    have hi' : i < L.length := by simpa using hi
    simp only [namesL, List.flatMap_cons, List.nodup_append] at hn
    rw [offL_no]
    · exact offL_at hn.2.1 hi' hj
    · intro k hk e
      refine hn.2.2 ((tyAt t a).fields.getD k default).name ?_ ((tyAt t a).fields.getD k default).name ?_ rfl
      · rw [List.getD_eq_getElem?_getD, List.getElem?_eq_getElem hk]
        exact List.mem_map.2 ⟨_, List.getElem_mem _, rfl⟩
      · rw [e]
        refine List.mem_flatMap.2 ⟨L.getD i 0, ?_, ?_⟩
        · rw [List.getD_eq_getElem?_getD, List.getElem?_eq_getElem hi']; exact List.getElem_mem _
        · rw [List.getD_eq_getElem?_getD (l := (tyAt t (L.getD i 0)).fields), List.getElem?_eq_getElem hj]
          exact List.mem_map.2 ⟨_, List.getElem_mem _, rfl⟩
theorem GoodP.chain_nd {t : List Ty} (h : GoodP t) {a : Int} (ha : RecIn t a) : (namesL t (chain t 5 a)).Nodup := by
  have := h.chn a.toNat (by have := ha.2.1; have := ha.1; omega)
  rw [Odd1] at this
  have e : (a.toNat : Int) = a := by have := ha.1; omega
  by_cases hc : ChainP t a
  · exact hc.2
  · exact absurd (by first | exact ⟨ha.2.2, by rw [e]; exact hc⟩ | simp_all [RecIn]) this
theorem offF_at {t : List Ty} (hg : GoodP t) {a : Int} (ha : RecIn t a) (hs : szF t a ≤ 32768) {i j : Nat} (hi : i < (chain t 5 a).length) (hj : j < (tyAt t ((chain t 5 a).getD i 0)).fields.length) :
    offF t a ((tyAt t ((chain t 5 a).getD i 0)).fields.getD j default).name = (fAt t ((chain t 5 a).getD i 0) j, (typsL t ((chain t 5 a).getD i 0)).getD j 0, true) := by
  rw [offF, if_pos ⟨hg, ha, hs⟩]
  exact offL_at (hg.chain_nd ha) hi hj
theorem offF_own {t : List Ty} (hg : GoodP t) {c : Int} (hc : RecIn t c) (hs : szF t c ≤ 32768) {j : Nat} (hj : j < (tyAt t c).fields.length) :
    offF t c ((tyAt t c).fields.getD j default).name = (fAt t c j, (typsL t c).getD j 0, true) := by
  obtain ⟨r, hr⟩ := chain_ne t 5 c
  have h0 : (chain t 5 c).getD 0 0 = c := by rw [hr]; rfl
  have := offF_at hg hc hs (i := 0) (j := j) (by rw [hr]; simp) (by rw [h0]; exact hj)
  rw [h0] at this
  exact this
section
variable {t : List Ty} (hg : GoodP t) {c : Int} (hc : RecIn t c) (hs : szF t c ≤ 32768) {j : Nat} (hj : j < (tyAt t c).fields.length)
include hg hc hs hj
/-- Where a field lies. -/
theorem fAt_rng : 0 ≤ RR t c j ∧ RR t c j ≤ fAt t c j ∧ 0 ≤ szF t ((typsL t c).getD j 0) ∧ fAt t c j + szF t ((typsL t c).getD j 0) = RR t c (j + 1) ∧ RR t c (j + 1) ≤ szF t c := by
  have h1 := RR_rng hg hc j
  have hb := hg.sz (rec_base hg hc)
  have hy := hg.sz (rec_typ hg hc (typ_at_mem hg hc hj))
  have h2 := RR_step hg hc hs hj
  have h3 := RR_mono hg hc (i := j + 1) (j := (tyAt t c).fields.length) (by omega)
  have h4 := sz_up hg hc hs
  have h5 := at_ge t (n := RR t c j) ((typsL t c).getD j 0) (by omega)
  have h6 : RR t c (tyAt t c).fields.length ≤ szF t c := by rw [h4.1]; exact (up_ge (by have := RR_rng hg hc (tyAt t c).fields.length; omega)).1
  refine ⟨by omega, h5.1, hy.1, h2.symm, by omega⟩
theorem fAt_mod (h : 1 < szF t ((typsL t c).getD j 0)) : fAt t c j % 4 = 0 := by
  have hp := rec_typ hg hc (typ_at_mem hg hc hj)
  have h1 : ¬ ((tyAt t ((typsL t c).getD j 0)).form = 2 ∨ (tyAt t ((typsL t c).getD j 0)).form = 3) := fun f => by
    have := hg.sz_1 hp f
    omega
  rw [fAt, atI, if_neg h1]
  unfold upI; omega
end
theorem sz_mod {t : List Ty} (hg : GoodP t) {a : Int} (ha : RecIn t a) (hs : szF t a ≤ 32768) : szF t a % 4 = 0 := by
  rw [(sz_up hg ha hs).1]; unfold upI; omega
end Go.Proofs.Ytlhpcccffmfopaa

/- LayoutApart. -/
namespace Go.Proofs.Ytlhpcccffmfopaa
set_option linter.unusedSimpArgs false
set_option linter.unusedVariables false
set_option maxRecDepth 20000
set_option maxHeartbeats 4000000
open Go.RowKit

abbrev U0 (n : Int) : List Int := List.replicate n.toNat 0
/-- The slots at the heads of the loops. -/
def SA (t : List Ty) (a : Int) (b : Nat) (Z c : Int) (i : Nat) : List AV := [tv t, iv a, .any, .any, .any, .gsl b 10 (t.map Ty.c), iv Z, .hsl (b + 1) 0 Z.toNat Z.toNat 1, iv c, iv i] ++ List.replicate 188 .any
theorem SA_eq (t : List Ty) (a : Int) (b : Nat) (Z c : Int) (i : Nat) : SA t a b Z c i = [tv t, iv a, .any, .any, .any, .gsl b 10 (t.map Ty.c), iv Z, .hsl (b + 1) 0 Z.toNat Z.toNat 1, iv c, iv i] ++ List.replicate 188 .any := rfl
def SB (t : List Ty) (a : Int) (b : Nat) (Z c : Int) (i j : Nat) : List AV := [tv t, iv a, .any, .any, .any, .gsl b 10 (t.map Ty.c), iv Z, .hsl (b + 1) 0 Z.toNat Z.toNat 1, iv c, iv i, iv j] ++ List.replicate 187 .any
theorem SB_eq (t : List Ty) (a : Int) (b : Nat) (Z c : Int) (i j : Nat) : SB t a b Z c i j = [tv t, iv a, .any, .any, .any, .gsl b 10 (t.map Ty.c), iv Z, .hsl (b + 1) 0 Z.toNat Z.toNat 1, iv c, iv i, iv j] ++ List.replicate 187 .any := rfl
def SC (t : List Ty) (a : Int) (b : Nat) (Z c : Int) (i j : Nat) (p n : Int) (k : Nat) : List AV := [tv t, iv a, .any, .any, .any, .gsl b 10 (t.map Ty.c), iv Z, .hsl (b + 1) 0 Z.toNat Z.toNat 1, iv c, iv i, iv j, iv p, .any, .any, .any, .any, .any, iv n, iv k] ++ List.replicate 179 .any
theorem SC_eq (t : List Ty) (a : Int) (b : Nat) (Z c : Int) (i j : Nat) (p n : Int) (k : Nat) : SC t a b Z c i j p n k = [tv t, iv a, .any, .any, .any, .gsl b 10 (t.map Ty.c), iv Z, .hsl (b + 1) 0 Z.toNat Z.toNat 1, iv c, iv i, iv j, iv p, .any, .any, .any, .any, .any, iv n, iv k] ++ List.replicate 179 .any := rfl
theorem LayoutApart_c {t : List Ty} (hk : TOk t) (hn : FNames t) (a : Int) (H : List ABlk) : ACalls Try.prog 10 [tv t, iv a] H fun v H' => v = bv true ∧ H' = H := by
  refine ACalls.into Try.func10 cc10 rr10 fun hcl => ?_
  have fin : ∀ l, Ret r10 H.length (fun v H' => v = bv true ∧ H' = H) (some (bv true)) (H ++ l) := fun l => Ret.drop (bv true) H (Nat.le_refl _) hcl (.rfl _) (by simp [refs]) ⟨rfl, rfl⟩
  have fin0 : Ret r10 H.length (fun v H' => v = bv true ∧ H' = H) (some (bv true)) H := Ret.keep ⟨rfl, rfl⟩
  simp (maxSteps := 2000000) (disch := omega) only [Try.ntmps10, c10, r10, go_sem, eq_self, if_true, if_false, reduceCtorEq, Int.reduceToNat, Int.reducePow, Nat.reducePow, Nat.reduceMul, Int.reduceLT, Int.reduceLE, Nat.reduceAdd, Nat.reduceLeDiff, Nat.reduceBEq, Nat.reduceSub, Int.reduceSub, Int.reduceMul, Int.reduceNeg, Int.reduceAdd]
  refine Cont.rel (large_c hk _) ?_
  rintro v H' ⟨⟨B, rfl, hB⟩, rfl⟩
  cases B
  rotate_left
  · simp (maxSteps := 2000000) (disch := omega) only [go_sem, eq_self, if_true, if_false, reduceCtorEq, Int.reduceToNat, Int.reducePow, Nat.reducePow, Nat.reduceMul, Int.reduceLT, Int.reduceLE, Nat.reduceAdd, Nat.reduceLeDiff, Nat.reduceBEq, Nat.reduceSub, Int.reduceSub, Int.reduceMul, Int.reduceNeg, Int.reduceAdd]
    refine Cont.mk (lwakes_c _) ?_
    simp (maxSteps := 2000000) (disch := omega) only [go_sem, eq_self, if_true, if_false, reduceCtorEq, Int.reduceToNat, Int.reducePow, Nat.reducePow, Nat.reduceMul, Int.reduceLT, Int.reduceLE, Nat.reduceAdd, Nat.reduceLeDiff, Nat.reduceBEq, Nat.reduceSub, Int.reduceSub, Int.reduceMul, Int.reduceNeg, Int.reduceAdd]
    exact fin0
  have hs := hB rfl
  have htt : TT t := ⟨hs, hn, hk⟩
  have htl := hs.1
  simp (maxSteps := 2000000) (disch := omega) only [go_sem, eq_self, if_true, if_false, reduceCtorEq, Int.reduceToNat, Int.reducePow, Nat.reducePow, Nat.reduceMul, Int.reduceLT, Int.reduceLE, Nat.reduceAdd, Nat.reduceLeDiff, Nat.reduceBEq, Nat.reduceSub, Int.reduceSub, Int.reduceMul, Int.reduceNeg, Int.reduceAdd]
  refine Cont.mk (rgood_c hs hn hk _) ?_
  by_cases hg : GoodP t
  rotate_left
  · rw [good_f hg]
    simp (maxSteps := 2000000) (disch := omega) only [go_sem, eq_self, if_true, if_false, reduceCtorEq, Int.reduceToNat, Int.reducePow, Nat.reducePow, Nat.reduceMul, Int.reduceLT, Int.reduceLE, Nat.reduceAdd, Nat.reduceLeDiff, Nat.reduceBEq, Nat.reduceSub, Int.reduceSub, Int.reduceMul, Int.reduceNeg, Int.reduceAdd]
    refine Cont.mk (lwakes_c _) ?_
    simp (maxSteps := 2000000) (disch := omega) only [go_sem, eq_self, if_true, if_false, reduceCtorEq, Int.reduceToNat, Int.reducePow, Nat.reducePow, Nat.reduceMul, Int.reduceLT, Int.reduceLE, Nat.reduceAdd, Nat.reduceLeDiff, Nat.reduceBEq, Nat.reduceSub, Int.reduceSub, Int.reduceMul, Int.reduceNeg, Int.reduceAdd]
    exact fin0
  rw [good_t hg]
  by_cases a0 : a < 0
  · simp (maxSteps := 2000000) (disch := omega) only [go_sem, eq_self, if_true, if_false, reduceCtorEq, Int.reduceToNat, Int.reducePow, Nat.reducePow, Nat.reduceMul, Int.reduceLT, Int.reduceLE, Nat.reduceAdd, Nat.reduceLeDiff, Nat.reduceBEq, Nat.reduceSub, Int.reduceSub, Int.reduceMul, Int.reduceNeg, Int.reduceAdd]
    refine Cont.mk (lwakes_c _) ?_
    simp (maxSteps := 2000000) (disch := omega) only [go_sem, eq_self, if_true, if_false, reduceCtorEq, Int.reduceToNat, Int.reducePow, Nat.reducePow, Nat.reduceMul, Int.reduceLT, Int.reduceLE, Nat.reduceAdd, Nat.reduceLeDiff, Nat.reduceBEq, Nat.reduceSub, Int.reduceSub, Int.reduceMul, Int.reduceNeg, Int.reduceAdd]
    exact fin0
  by_cases a1 : a < t.length
  rotate_left
  · simp (maxSteps := 2000000) (disch := omega) only [List.length_map, go_sem, eq_self, if_true, if_false, reduceCtorEq, Int.reduceToNat, Int.reducePow, Nat.reducePow, Nat.reduceMul, Int.reduceLT, Int.reduceLE, Nat.reduceAdd, Nat.reduceLeDiff, Nat.reduceBEq, Nat.reduceSub, Int.reduceSub, Int.reduceMul, Int.reduceNeg, Int.reduceAdd]
    refine Cont.mk (lwakes_c _) ?_
    simp (maxSteps := 2000000) (disch := omega) only [go_sem, eq_self, if_true, if_false, reduceCtorEq, Int.reduceToNat, Int.reducePow, Nat.reducePow, Nat.reduceMul, Int.reduceLT, Int.reduceLE, Nat.reduceAdd, Nat.reduceLeDiff, Nat.reduceBEq, Nat.reduceSub, Int.reduceSub, Int.reduceMul, Int.reduceNeg, Int.reduceAdd]
    exact fin0
  have ha : placeP t a := ⟨by omega, a1⟩
  have iax := iaA_ty ha.1 ha.2
  have hrec : (tyAt t a).form = 9 → RecIn t a := fun f => ⟨ha.1, ha.2, f⟩
  generalize tyAt t a = x0 at *
  by_cases f9 : x0.form = 9
  rotate_left
  · simp (maxSteps := 2000000) (disch := omega) only [iax, Ty.c, List.length_map, go_sem, eq_self, if_true, if_false, reduceCtorEq, Int.reduceToNat, Int.reducePow, Nat.reducePow, Nat.reduceMul, Int.reduceLT, Int.reduceLE, Nat.reduceAdd, Nat.reduceLeDiff, Nat.reduceBEq, Nat.reduceSub, Int.reduceSub, Int.reduceMul, Int.reduceNeg, Int.reduceAdd]
    refine Cont.mk (lwakes_c _) ?_
    simp (maxSteps := 2000000) (disch := omega) only [go_sem, eq_self, if_true, if_false, reduceCtorEq, Int.reduceToNat, Int.reducePow, Nat.reducePow, Nat.reduceMul, Int.reduceLT, Int.reduceLE, Nat.reduceAdd, Nat.reduceLeDiff, Nat.reduceBEq, Nat.reduceSub, Int.reduceSub, Int.reduceMul, Int.reduceNeg, Int.reduceAdd]
    exact fin0
  have hr := hrec f9
  simp (maxSteps := 2000000) (disch := omega) only [iax, Ty.c, List.length_map, go_sem, eq_self, if_true, if_false, reduceCtorEq, Int.reduceToNat, Int.reducePow, Nat.reducePow, Nat.reduceMul, Int.reduceLT, Int.reduceLE, Nat.reduceAdd, Nat.reduceLeDiff, Nat.reduceBEq, Nat.reduceSub, Int.reduceSub, Int.reduceMul, Int.reduceNeg, Int.reduceAdd]
  clear iax hrec f9
  refine Cont.mk (copy_c hs _) ?_
  simp (maxSteps := 2000000) (disch := omega) only [go_sem, eq_self, if_true, if_false, reduceCtorEq, Int.reduceToNat, Int.reducePow, Nat.reducePow, Nat.reduceMul, Int.reduceLT, Int.reduceLE, Nat.reduceAdd, Nat.reduceLeDiff, Nat.reduceBEq, Nat.reduceSub, Int.reduceSub, Int.reduceMul, Int.reduceNeg, Int.reduceAdd]
  refine Cont.mk ((lsize_c htt a _).weak (.cons (.gsl _ _ _) (.cons (.rfl _) .nil))) ?_
  rw [szL, if_pos ⟨hg, ha⟩]
  have hz0 := hg.sz ha
  by_cases hz : szF t a ≤ 32768
  rotate_left
  · have e : szF t a = 32769 := by omega
    simp (maxSteps := 2000000) (disch := omega) only [e, go_sem, eq_self, if_true, if_false, reduceCtorEq, Int.reduceToNat, Int.reducePow, Nat.reducePow, Nat.reduceMul, Int.reduceLT, Int.reduceLE, Nat.reduceAdd, Nat.reduceLeDiff, Nat.reduceBEq, Nat.reduceSub, Int.reduceSub, Int.reduceMul, Int.reduceNeg, Int.reduceAdd]
    refine Cont.mk (lwakes_c _) ?_
    simp (maxSteps := 2000000) (disch := omega) only [go_sem, eq_self, if_true, if_false, reduceCtorEq, Int.reduceToNat, Int.reducePow, Nat.reducePow, Nat.reduceMul, Int.reduceLT, Int.reduceLE, Nat.reduceAdd, Nat.reduceLeDiff, Nat.reduceBEq, Nat.reduceSub, Int.reduceSub, Int.reduceMul, Int.reduceNeg, Int.reduceAdd]
    exact fin _
  have hmod := sz_mod hg hr hz
  have hsF : ∀ c : Int, placeP t c → szL t c = szF t c := fun c hc => by rw [szL, if_pos ⟨hg, hc⟩]
  obtain ⟨l, hl⟩ : ∃ l, l = chain t 5 a := ⟨_, rfl⟩
  have l5 : l.length ≤ 5 := by rw [hl]; exact hg.chain5 hr
  have hst : ∀ i, i < l.length → (tyAt t (l.getD i 0)).base = l.getD (i + 1) 0 := by rw [hl]; exact chain_step (hg.chain5 hr)
  have hrc : ∀ c ∈ l, RecIn t c := by rw [hl]; exact hg.chain_rec hr
  have hsc : ∀ c ∈ l, szF t c ≤ szF t a := by rw [hl]; exact fun c hc => chain_small hg hr c hc
  have hl0 : 0 < l.length := by obtain ⟨r, hr⟩ := chain_ne t 5 a; rw [hl, hr]; simp
  have h0 : l.getD 0 0 = a := by obtain ⟨r, hr⟩ := chain_ne t 5 a; rw [hl, hr]; rfl
  have hoff : ∀ i j, i < l.length → j < (tyAt t (l.getD i 0)).fields.length → offF t a ((tyAt t (l.getD i 0)).fields.getD j default).name = (fAt t (l.getD i 0) j, (typsL t (l.getD i 0)).getD j 0, true) := by
    rw [hl]; exact fun i j hi hj => offF_at hg hr hz hi hj
  clear hl
  obtain ⟨Z, hZ⟩ : ∃ Z, Z = szF t a := ⟨_, rfl⟩
  rw [← hZ] at hz0 hz hmod hsc ⊢
  have e0 : (List.replicate Z.toNat [iv 0]).flatten = (U0 Z).map iv := rep_flat _
  obtain ⟨G, hG⟩ : ∃ G : List Int → List ABlk, ∀ U, G U = H' ++ [.row 32 10 t.length, .cells (U.map iv)] := ⟨_, fun _ => rfl⟩
  have hGk : ∀ U, (G U)[H'.length + 1]? = some (.cells (U.map iv)) := fun U => by rw [hG, List.getElem?_append_right (by omega)]; simp
  have hGs : ∀ U V, (G U).set (H'.length + 1) (.cells (V.map iv)) = G V := fun U V => by rw [hG, hG, List.set_append_right _ _ (by omega)]; simp
  have hGn : H' ++ [.row 32 10 t.length, .cells ((U0 Z).map iv)] = G (U0 Z) := (hG _).symm
  simp (maxSteps := 2000000) (disch := omega) only [e0, hGn, go_sem, eq_self, if_true, if_false, reduceCtorEq, Int.reduceToNat, Int.reducePow, Nat.reducePow, Nat.reduceMul, Int.reduceLT, Int.reduceLE, Nat.reduceAdd, Nat.reduceLeDiff, Nat.reduceBEq, Nat.reduceSub, Int.reduceSub, Int.reduceMul, Int.reduceNeg, Int.reduceAdd]
  clear e0 hGn
  have hZ0 : 0 ≤ Z ∧ Z ≤ 32768 := ⟨hz0.1, hz⟩
  have htm : Z.tmod 4 = 0 := by rw [Int.tmod_eq_emod_of_nonneg hZ0.1]; exact hmod
  have hUl : ∀ {U : List Int} {k : Nat}, U.length = Z.toNat → (U.set k 1).length = Z.toNat := fun h => by rw [List.length_set]; exact h
  refine W.loopG (γ := List Int × Nat) (fun g => l.length - g.2) (fun g => SA t a H'.length Z (l.getD g.2 0) g.2) (fun g => G g.1) (fun g => g.2 < l.length ∧ g.1.length = Z.toNat ∧ ∀ k : Nat, (k : Int) < szF t (l.getD g.2 0) → g.1.getD k 0 = 0) (U0 Z, 0) (by rw [SA_eq, h0]; exact Wk.slots (by (try simp only [List.replicate, List.cons_append, List.nil_append]); repeat' first | exact WkL.nil | refine WkL.cons (Wk1.rfl _) ?_ | refine WkL.cons Wk1.esl ?_ | refine WkL.cons (Wk1.gsl _ _ _) ?_ | refine WkL.cons (Wk1.any _) ?_)) ⟨hl0, by simp, fun k _ => by rw [List.getD_eq_getElem?_getD, List.getElem?_replicate]; split <;> rfl⟩ (fun g hI => ?_)
  obtain ⟨U, i⟩ := g
  obtain ⟨hi, u1, u2⟩ := hI
  simp only at hi u1 u2
  rw [SA_eq]
  have hmem : l.getD i 0 ∈ l := by
    rw [List.getD_eq_getElem?_getD, List.getElem?_eq_getElem hi]; exact List.getElem_mem _
  have hc := hrc _ hmem
  have hcs := hsc _ hmem
  have hsi := hst i hi
  have hoff' := hoff i
  have hlast : (tyAt t (l.getD i 0)).base ≠ 0 → i + 1 < l.length := fun e => by
    rcases Nat.lt_or_ge (i + 1) l.length with h | h
    · exact h
    · exact absurd (by rw [hsi, List.getD_eq_getElem?_getD, List.getElem?_eq_none h]; rfl) e
  generalize hcc : l.getD i 0 = c at *
  have hcz : szF t c ≤ 32768 := by omega
  have hpb := rec_base hg hc
  have hbl := base_le hg hc
  have hzb := hg.sz hpb
  have iac := iaA_ty hc.1 hc.2.1
  have hfl := (hs.2 _ (tyAt_mem hc.1 hc.2.1)).1
  have hown := fun j => offF_own hg hc hcz (j := j)
  have hrng := fun j => fAt_rng hg hc hcz (j := j)
  have hmd := fun j => fAt_mod hg hc hcz (j := j)
  have hpt : ∀ j, j < (tyAt t c).fields.length → placeP t ((typsL t c).getD j 0) := fun j hj => rec_typ hg hc (typ_at_mem hg hc hj)
  have hty : ∀ j, j < (tyAt t c).fields.length → ((tyAt t c).fields.getD j default).typ = (typsL t c).getD j 0 := fun j hj => (typsL_at hj).symm
  have hR0 : RR t c 0 = szF t (tyAt t c).base := rfl
  have hRb := fun j => (RR_rng hg hc j).1
  obtain ⟨R, hR⟩ : ∃ R : Nat → Int, ∀ j, R j = RR t c j := ⟨_, fun _ => rfl⟩
  simp only [← hR] at hrng hR0 hRb
  clear hR
  generalize typsL t c = fs at *
  generalize tyAt t c = x at *
  simp (maxSteps := 2000000) (disch := omega) only [c10l2, go_sem, eq_self, if_true, if_false, reduceCtorEq, Int.reduceToNat, Int.reducePow, Nat.reducePow, Nat.reduceMul, Int.reduceLT, Int.reduceLE, Nat.reduceAdd, Nat.reduceLeDiff, Nat.reduceBEq, Nat.reduceSub, Int.reduceSub, Int.reduceMul, Int.reduceNeg, Int.reduceAdd]
  refine W.loopG (γ := List Int × Nat) (fun g => x.fields.length - g.2) (fun g => SB t a H'.length Z c i g.2) (fun g => G g.1) (fun g => g.2 ≤ x.fields.length ∧ g.1.length = Z.toNat ∧ ∀ k : Nat, ((k : Int) < szF t x.base ∨ (R g.2 ≤ k ∧ (k : Int) < szF t c)) → g.1.getD k 0 = 0) (U, 0) (by rw [SB_eq]; exact Wk.slots (by (try simp only [List.replicate, List.cons_append, List.nil_append]); repeat' first | exact WkL.nil | refine WkL.cons (Wk1.rfl _) ?_ | refine WkL.cons Wk1.esl ?_ | refine WkL.cons (Wk1.gsl _ _ _) ?_ | refine WkL.cons (Wk1.any _) ?_)) ⟨by omega, u1, fun k hk => u2 k (by omega)⟩ (fun g hI => ?_)
  clear u1 u2
  obtain ⟨V, j⟩ := g
  obtain ⟨hj, u1, u2⟩ := hI
  simp only at hj u1 u2
  rw [SB_eq]
  simp (maxSteps := 2000000) (disch := omega) only [c10l1, iac, Ty.c, List.length_map, go_sem, eq_self, if_true, if_false, reduceCtorEq, Int.reduceToNat, Int.reducePow, Nat.reducePow, Nat.reduceMul, Int.reduceLT, Int.reduceLE, Nat.reduceAdd, Nat.reduceLeDiff, Nat.reduceBEq, Nat.reduceSub, Int.reduceSub, Int.reduceMul, Int.reduceNeg, Int.reduceAdd]
  refine Br.dec (fun hcj => ?_) (fun hcj => ?_) <;> simp (maxSteps := 2000000) (disch := omega) only [go_sem, eq_self, if_true, if_false, reduceCtorEq, Int.reduceToNat, Int.reducePow, Nat.reducePow, Nat.reduceMul, Int.reduceLT, Int.reduceLE, Nat.reduceAdd, Nat.reduceLeDiff, Nat.reduceBEq, Nat.reduceSub, Int.reduceSub, Int.reduceMul, Int.reduceNeg, Int.reduceAdd]
  rotate_left
  · simp (maxSteps := 2000000) (disch := omega) only [iac, Ty.c, go_sem, eq_self, if_true, if_false, reduceCtorEq, Int.reduceToNat, Int.reducePow, Nat.reducePow, Nat.reduceMul, Int.reduceLT, Int.reduceLE, Nat.reduceAdd, Nat.reduceLeDiff, Nat.reduceBEq, Nat.reduceSub, Int.reduceSub, Int.reduceMul, Int.reduceNeg, Int.reduceAdd]
    by_cases e : x.base = 0
    · have ke := feq e
      simp (maxSteps := 2000000) (disch := omega) only [htm, inB_o (id := 1) (id' := 0) (by decide), go_sem, eq_self, if_true, if_false, reduceCtorEq, Int.reduceToNat, Int.reducePow, Nat.reducePow, Nat.reduceMul, Int.reduceLT, Int.reduceLE, Nat.reduceAdd, Nat.reduceLeDiff, Nat.reduceBEq, Nat.reduceSub, Int.reduceSub, Int.reduceMul, Int.reduceNeg, Int.reduceAdd]
      refine Cont.mk (lwakes_c _) ?_
      simp (maxSteps := 2000000) (disch := omega) only [go_sem, eq_self, if_true, if_false, reduceCtorEq, Int.reduceToNat, Int.reducePow, Nat.reducePow, Nat.reduceMul, Int.reduceLT, Int.reduceLE, Nat.reduceAdd, Nat.reduceLeDiff, Nat.reduceBEq, Nat.reduceSub, Int.reduceSub, Int.reduceMul, Int.reduceNeg, Int.reduceAdd]
      rw [hG]
      exact fin _
    · simp (maxSteps := 2000000) (disch := omega) only [iac, Ty.c, go_sem, eq_self, if_true, if_false, reduceCtorEq, Int.reduceToNat, Int.reducePow, Nat.reducePow, Nat.reduceMul, Int.reduceLT, Int.reduceLE, Nat.reduceAdd, Nat.reduceLeDiff, Nat.reduceBEq, Nat.reduceSub, Int.reduceSub, Int.reduceMul, Int.reduceNeg, Int.reduceAdd]
      refine Cont.mk ((lsize_c htt x.base _).weak (.cons (.gsl _ _ _) (.cons (.rfl _) .nil))) ?_
      rw [hsF _ hpb]
      simp (maxSteps := 2000000) (disch := omega) only [iac, Ty.c, go_sem, eq_self, if_true, if_false, reduceCtorEq, Int.reduceToNat, Int.reducePow, Nat.reducePow, Nat.reduceMul, Int.reduceLT, Int.reduceLE, Nat.reduceAdd, Nat.reduceLeDiff, Nat.reduceBEq, Nat.reduceSub, Int.reduceSub, Int.reduceMul, Int.reduceNeg, Int.reduceAdd]
      rw [hsi]
      have := hlast e
      exact Nxt.mk (V, i + 1) (by simp only; omega) (by rw [SA_eq]; exact Wk.slots (by (try simp only [List.replicate, List.cons_append, List.nil_append]); repeat' first | exact WkL.nil | refine WkL.cons (Wk1.rfl _) ?_ | refine WkL.cons Wk1.esl ?_ | refine WkL.cons (Wk1.gsl _ _ _) ?_ | refine WkL.cons (Wk1.any _) ?_)) ⟨this, u1, fun k hk => u2 k (.inl (by rw [hsi]; exact hk))⟩
  have hia := iaA_fd (t := x.fields) (a := (j : Int)) (by omega) (by omega)
  rw [fdAt, Int.toNat_natCast] at hia
  have hoj := hoff' j hi (by omega)
  have hwj := hown j (by omega)
  obtain ⟨r1, r2, r3, r4, r5⟩ := hrng j (by omega)
  have hmj := hmd j (by omega)
  have hbj := hRb j
  have hpj := hpt j (by omega)
  have htj := hty j (by omega)
  generalize x.fields.getD j default = f at *
  generalize fs.getD j 0 = y at *
  generalize fAt t c j = p at *
  simp (maxSteps := 2000000) (disch := omega) only [hia, iac, Ty.c, Fd.c, go_sem, eq_self, if_true, if_false, reduceCtorEq, Int.reduceToNat, Int.reducePow, Nat.reducePow, Nat.reduceMul, Int.reduceLT, Int.reduceLE, Nat.reduceAdd, Nat.reduceLeDiff, Nat.reduceBEq, Nat.reduceSub, Int.reduceSub, Int.reduceMul, Int.reduceNeg, Int.reduceAdd]
  refine Cont.mk ((loff_c htt a f.name _).weak (.cons (.gsl _ _ _) (.cons (.rfl _) (.cons (.rfl _) .nil)))) ?_
  rw [hoj]
  simp (maxSteps := 2000000) (disch := omega) only [hia, iac, Ty.c, Fd.c, htj, go_sem, eq_self, if_true, if_false, reduceCtorEq, Int.reduceToNat, Int.reducePow, Nat.reducePow, Nat.reduceMul, Int.reduceLT, Int.reduceLE, Nat.reduceAdd, Nat.reduceLeDiff, Nat.reduceBEq, Nat.reduceSub, Int.reduceSub, Int.reduceMul, Int.reduceNeg, Int.reduceAdd]
  refine Cont.mk ((loff_c htt c f.name _).weak (.cons (.gsl _ _ _) (.cons (.rfl _) (.cons (.rfl _) .nil)))) ?_
  rw [hwj]
  simp (maxSteps := 2000000) (disch := omega) only [go_sem, eq_self, if_true, if_false, reduceCtorEq, Int.reduceToNat, Int.reducePow, Nat.reducePow, Nat.reduceMul, Int.reduceLT, Int.reduceLE, Nat.reduceAdd, Nat.reduceLeDiff, Nat.reduceBEq, Nat.reduceSub, Int.reduceSub, Int.reduceMul, Int.reduceNeg, Int.reduceAdd]
  refine Cont.mk ((lsize_c htt y _).weak (.cons (.gsl _ _ _) (.cons (.rfl _) .nil))) ?_
  rw [hsF _ hpj]
  generalize szF t y = n at *
  have hp0 : 0 ≤ p := by omega
  by_cases h1 : 1 < n
  · have ptm : p.tmod 4 = 0 := by rw [Int.tmod_eq_emod_of_nonneg hp0]; exact hmj h1
    simp (maxSteps := 2000000) (disch := omega) only [ptm, go_sem, eq_self, if_true, if_false, reduceCtorEq, Int.reduceToNat, Int.reducePow, Nat.reducePow, Nat.reduceMul, Int.reduceLT, Int.reduceLE, Nat.reduceAdd, Nat.reduceLeDiff, Nat.reduceBEq, Nat.reduceSub, Int.reduceSub, Int.reduceMul, Int.reduceNeg, Int.reduceAdd]
    refine W.loopG (γ := List Int × Nat) (fun g => (p + n - g.2).toNat) (fun g => SC t a H'.length Z c i j p n g.2) (fun g => G g.1) (fun g => p ≤ g.2 ∧ (g.2 : Int) ≤ p + n ∧ g.1.length = Z.toNat ∧ ∀ k : Nat, ((k : Int) < szF t x.base ∨ ((g.2 : Int) ≤ k ∧ (k : Int) < szF t c)) → g.1.getD k 0 = 0) (V, p.toNat) (by simp only [SC_eq, Int.toNat_of_nonneg hp0]; exact Wk.slots (by (try simp only [List.replicate, List.cons_append, List.nil_append]); repeat' first | exact WkL.nil | refine WkL.cons (Wk1.rfl _) ?_ | refine WkL.cons Wk1.esl ?_ | refine WkL.cons (Wk1.gsl _ _ _) ?_ | refine WkL.cons (Wk1.any _) ?_)) ⟨by simp only; omega, by simp only; omega, u1, fun k hk => u2 k (by simp only at hk; omega)⟩ (fun g hI => ?_)
    obtain ⟨W, k⟩ := g
    obtain ⟨v1, v2, v3, v4⟩ := hI
    simp only at v1 v2 v3 v4
    rw [SC_eq]
    simp (maxSteps := 2000000) (disch := omega) only [c10l0, go_sem, eq_self, if_true, if_false, reduceCtorEq, Int.reduceToNat, Int.reducePow, Nat.reducePow, Nat.reduceMul, Int.reduceLT, Int.reduceLE, Nat.reduceAdd, Nat.reduceLeDiff, Nat.reduceBEq, Nat.reduceSub, Int.reduceSub, Int.reduceMul, Int.reduceNeg, Int.reduceAdd]
    refine Br.dec (fun hk => ?_) (fun hk => ?_) <;> simp (maxSteps := 2000000) (disch := omega) only [go_sem, eq_self, if_true, if_false, reduceCtorEq, Int.reduceToNat, Int.reducePow, Nat.reducePow, Nat.reduceMul, Int.reduceLT, Int.reduceLE, Nat.reduceAdd, Nat.reduceLeDiff, Nat.reduceBEq, Nat.reduceSub, Int.reduceSub, Int.reduceMul, Int.reduceNeg, Int.reduceAdd]
    · have hix := iaA_hsl (b := H'.length + 1) (n := Z.toNat) (x := (k : Int)) ⟨by omega, by omega⟩
      rw [Int.toNat_natCast] at hix
      have htk := kb_take (m := W) (a := k) (by omega)
      have hw0 := v4 k (.inr ⟨by omega, by omega⟩)
      generalize W.getD k 0 = u at *
      have hsp : List.take k (W.map iv) ++ iv (u + 1) :: List.drop (k + 1) (W.map iv) = (W.set k (u + 1)).map iv := by
        rw [← List.map_take, ← List.map_drop, List.set_eq_take_append_cons_drop, if_pos (by omega), List.map_append, List.map_cons]
      have hg2 : (W.set k (u + 1)).getD k 0 = u + 1 := by rw [List.getD_eq_getElem?_getD, List.getElem?_set_self (by omega)]; rfl
      have htk2 := kb_take (m := W.set k (u + 1)) (a := k) (by rw [List.length_set]; omega)
      rw [hg2] at htk2
      have hgn : ∀ m : Nat, m ≠ k → (W.set k (u + 1)).getD m 0 = W.getD m 0 := fun m hm => by rw [List.getD_eq_getElem?_getD, List.getElem?_set_ne (Ne.symm hm), ← List.getD_eq_getElem?_getD]
      simp (maxSteps := 2000000) (disch := omega) only [hix, hGk, htk, hsp, hGs, htk2, go_sem, eq_self, if_true, if_false, reduceCtorEq, Int.reduceToNat, Int.reducePow, Nat.reducePow, Nat.reduceMul, Int.reduceLT, Int.reduceLE, Nat.reduceAdd, Nat.reduceLeDiff, Nat.reduceBEq, Nat.reduceSub, Int.reduceSub, Int.reduceMul, Int.reduceNeg, Int.reduceAdd]
      exact Nxt.mk (W.set k (u + 1), k + 1) (by simp only; omega) (by rw [SC_eq]; exact Wk.slots (by (try simp only [List.replicate, List.cons_append, List.nil_append]); repeat' first | exact WkL.nil | refine WkL.cons (Wk1.rfl _) ?_ | refine WkL.cons Wk1.esl ?_ | refine WkL.cons (Wk1.gsl _ _ _) ?_ | refine WkL.cons (Wk1.any _) ?_)) ⟨by simp only; omega, by simp only; omega, by rw [List.length_set]; exact v3, fun m hm => by
        simp only at hm
        rw [hgn m (by omega)]; exact v4 m (by omega)⟩
    · exact Nxt.mk (W, j + 1) (by simp only; omega) (by rw [SB_eq]; exact Wk.slots (by (try simp only [List.replicate, List.cons_append, List.nil_append]); repeat' first | exact WkL.nil | refine WkL.cons (Wk1.rfl _) ?_ | refine WkL.cons Wk1.esl ?_ | refine WkL.cons (Wk1.gsl _ _ _) ?_ | refine WkL.cons (Wk1.any _) ?_)) ⟨by simp only; omega, v3, fun m hm => v4 m (by simp only at hm; omega)⟩
  · simp (maxSteps := 2000000) (disch := omega) only [go_sem, eq_self, if_true, if_false, reduceCtorEq, Int.reduceToNat, Int.reducePow, Nat.reducePow, Nat.reduceMul, Int.reduceLT, Int.reduceLE, Nat.reduceAdd, Nat.reduceLeDiff, Nat.reduceBEq, Nat.reduceSub, Int.reduceSub, Int.reduceMul, Int.reduceNeg, Int.reduceAdd]
    refine W.loopG (γ := List Int × Nat) (fun g => (p + n - g.2).toNat) (fun g => SC t a H'.length Z c i j p n g.2) (fun g => G g.1) (fun g => p ≤ g.2 ∧ (g.2 : Int) ≤ p + n ∧ g.1.length = Z.toNat ∧ ∀ k : Nat, ((k : Int) < szF t x.base ∨ ((g.2 : Int) ≤ k ∧ (k : Int) < szF t c)) → g.1.getD k 0 = 0) (V, p.toNat) (by simp only [SC_eq, Int.toNat_of_nonneg hp0]; exact Wk.slots (by (try simp only [List.replicate, List.cons_append, List.nil_append]); repeat' first | exact WkL.nil | refine WkL.cons (Wk1.rfl _) ?_ | refine WkL.cons Wk1.esl ?_ | refine WkL.cons (Wk1.gsl _ _ _) ?_ | refine WkL.cons (Wk1.any _) ?_)) ⟨by simp only; omega, by simp only; omega, u1, fun k hk => u2 k (by simp only at hk; omega)⟩ (fun g hI => ?_)
    obtain ⟨W, k⟩ := g
    obtain ⟨v1, v2, v3, v4⟩ := hI
    simp only at v1 v2 v3 v4
    rw [SC_eq]
    simp (maxSteps := 2000000) (disch := omega) only [c10l0, go_sem, eq_self, if_true, if_false, reduceCtorEq, Int.reduceToNat, Int.reducePow, Nat.reducePow, Nat.reduceMul, Int.reduceLT, Int.reduceLE, Nat.reduceAdd, Nat.reduceLeDiff, Nat.reduceBEq, Nat.reduceSub, Int.reduceSub, Int.reduceMul, Int.reduceNeg, Int.reduceAdd]
    refine Br.dec (fun hk => ?_) (fun hk => ?_) <;> simp (maxSteps := 2000000) (disch := omega) only [go_sem, eq_self, if_true, if_false, reduceCtorEq, Int.reduceToNat, Int.reducePow, Nat.reducePow, Nat.reduceMul, Int.reduceLT, Int.reduceLE, Nat.reduceAdd, Nat.reduceLeDiff, Nat.reduceBEq, Nat.reduceSub, Int.reduceSub, Int.reduceMul, Int.reduceNeg, Int.reduceAdd]
    · have hix := iaA_hsl (b := H'.length + 1) (n := Z.toNat) (x := (k : Int)) ⟨by omega, by omega⟩
      rw [Int.toNat_natCast] at hix
      have htk := kb_take (m := W) (a := k) (by omega)
      have hw0 := v4 k (.inr ⟨by omega, by omega⟩)
      generalize W.getD k 0 = u at *
      have hsp : List.take k (W.map iv) ++ iv (u + 1) :: List.drop (k + 1) (W.map iv) = (W.set k (u + 1)).map iv := by
        rw [← List.map_take, ← List.map_drop, List.set_eq_take_append_cons_drop, if_pos (by omega), List.map_append, List.map_cons]
      have hg2 : (W.set k (u + 1)).getD k 0 = u + 1 := by rw [List.getD_eq_getElem?_getD, List.getElem?_set_self (by omega)]; rfl
      have htk2 := kb_take (m := W.set k (u + 1)) (a := k) (by rw [List.length_set]; omega)
      rw [hg2] at htk2
      have hgn : ∀ m : Nat, m ≠ k → (W.set k (u + 1)).getD m 0 = W.getD m 0 := fun m hm => by rw [List.getD_eq_getElem?_getD, List.getElem?_set_ne (Ne.symm hm), ← List.getD_eq_getElem?_getD]
      simp (maxSteps := 2000000) (disch := omega) only [hix, hGk, htk, hsp, hGs, htk2, go_sem, eq_self, if_true, if_false, reduceCtorEq, Int.reduceToNat, Int.reducePow, Nat.reducePow, Nat.reduceMul, Int.reduceLT, Int.reduceLE, Nat.reduceAdd, Nat.reduceLeDiff, Nat.reduceBEq, Nat.reduceSub, Int.reduceSub, Int.reduceMul, Int.reduceNeg, Int.reduceAdd]
      exact Nxt.mk (W.set k (u + 1), k + 1) (by simp only; omega) (by rw [SC_eq]; exact Wk.slots (by (try simp only [List.replicate, List.cons_append, List.nil_append]); repeat' first | exact WkL.nil | refine WkL.cons (Wk1.rfl _) ?_ | refine WkL.cons Wk1.esl ?_ | refine WkL.cons (Wk1.gsl _ _ _) ?_ | refine WkL.cons (Wk1.any _) ?_)) ⟨by simp only; omega, by simp only; omega, by rw [List.length_set]; exact v3, fun m hm => by
        simp only at hm
        rw [hgn m (by omega)]; exact v4 m (by omega)⟩
    · exact Nxt.mk (W, j + 1) (by simp only; omega) (by rw [SB_eq]; exact Wk.slots (by (try simp only [List.replicate, List.cons_append, List.nil_append]); repeat' first | exact WkL.nil | refine WkL.cons (Wk1.rfl _) ?_ | refine WkL.cons Wk1.esl ?_ | refine WkL.cons (Wk1.gsl _ _ _) ?_ | refine WkL.cons (Wk1.any _) ?_)) ⟨by simp only; omega, v3, fun m hm => v4 m (by simp only at hm; omega)⟩
end Go.Proofs.Ytlhpcccffmfopaa

/- The arguments of the rows. -/
namespace Go.Proofs.Ytlhpcccffmfopaa
open Go.ChangeShapes Go.WideShapes Go.ChangeAt Go.RowKit
theorem Try.laidOut : laidOutB Try.prog = true := by kernel_rfl
theorem Try.own : ownKnob Try.prog.godebug = none := by kernel_rfl
def argL : List TypeId := [22, 32, 29, 48, 30, 36, 3, 9, 4, 42]
theorem argL_ok : dataB Try.prog argL = true := by kernel_rfl
abbrev I64 (n : Int) : Prop := -9223372036854775808 ≤ n ∧ n < 9223372036854775808
theorem read_list {α : Type} [Inhabited α] (f : α → List Dat) (Ok : α → Prop) {es : List (List Dat)} (h : ∀ c ∈ es, ∃ s, c = f s ∧ Ok s) : ∃ l : List α, es = l.map f ∧ ∀ s ∈ l, Ok s := by
  have key : ∀ c : List Dat, ∃ s : α, c ∈ es → c = f s ∧ Ok s := fun c => by
    by_cases hc : c ∈ es
    · obtain ⟨s, e, hs⟩ := h c hc
      exact ⟨s, fun _ => ⟨e, hs⟩⟩
    · exact ⟨default, fun h => absurd h hc⟩
  obtain ⟨F, hF⟩ := Classical.axiomOfChoice key
  refine ⟨es.map F, ?_, fun x hx => ?_⟩
  · rw [List.map_map]
    symm
    conv => rhs; rw [← List.map_id es]
    exact List.map_congr_left fun c hc => ((hF c hc).1).symm
  · obtain ⟨c, hc, rfl⟩ := List.mem_map.1 hx
    exact (hF c hc).2
def Fd.In (f : Fd) : Prop := f.name.size ≤ 140737488355328 ∧ I64 f.typ
def Pm.In (p : Pm) : Prop := I64 p.typ
structure Ty.In (x : Ty) : Prop where
  ok : x.Ok
  form : I64 x.form
  len : I64 x.len
  elem : I64 x.elem
  base : I64 x.base
  result : I64 x.result
  desc : I64 x.desc
  fd : ∀ f ∈ x.fields, f.In
  pm : ∀ p ∈ x.params, p.In
theorem read_fd {c : List Dat} (h : TyD Try.prog 48 c) : ∃ s : Fd, c = s.c ∧ s.In := by
  obtain ⟨parts, rfl, hl, hp⟩ := h.st_inv Try.underlying48
  match parts, hl with
  | [p0, p1, p2], _ =>
    obtain ⟨n0, rfl, h0⟩ := (hp 0 _ _ rfl rfl).str_inv Try.underlying9
    obtain ⟨n1, rfl⟩ := (hp 1 _ _ rfl rfl).bool_inv Try.underlying4
    obtain ⟨n2, rfl, h2⟩ := (hp 2 _ _ rfl rfl).int_inv Try.underlying3
    exact ⟨⟨n0, n1, n2⟩, rfl, h0, wf_i64 h2⟩
theorem read_pm {c : List Dat} (h : TyD Try.prog 36 c) : ∃ s : Pm, c = s.c ∧ s.In := by
  obtain ⟨parts, rfl, hl, hp⟩ := h.st_inv Try.underlying36
  match parts, hl with
  | [p0, p1], _ =>
    obtain ⟨n0, rfl⟩ := (hp 0 _ _ rfl rfl).bool_inv Try.underlying4
    obtain ⟨n1, rfl, h1⟩ := (hp 1 _ _ rfl rfl).int_inv Try.underlying3
    exact ⟨⟨n0, n1⟩, rfl, wf_i64 h1⟩
theorem len_le {n e : Nat} (hb : 1 ≤ Try.prog.bytesOf e) (h : n * Try.prog.bytesOf e ≤ 140737488355328) : n ≤ 140737488355328 := Nat.le_trans (Nat.le_mul_of_pos_right n hb) h
theorem b48 : 1 ≤ Try.prog.bytesOf 48 := of_decide_eq_true (by kernel_rfl)
theorem b36 : 1 ≤ Try.prog.bytesOf 36 := of_decide_eq_true (by kernel_rfl)
theorem b32 : 1 ≤ Try.prog.bytesOf 32 := of_decide_eq_true (by kernel_rfl)
theorem read_ty1 {c : List Dat} (h : TyD Try.prog 32 c) : ∃ s : Ty, c = s.c ∧ s.In := by
  obtain ⟨parts, rfl, hl, hp⟩ := h.st_inv Try.underlying32
  match parts, hl with
  | [p0, p1, p2, p3, p4, p5, p6, p7, p8, p9], _ =>
    obtain ⟨n0, rfl, h0⟩ := (hp 0 _ _ rfl rfl).int_inv Try.underlying3
    obtain ⟨n1, rfl, h1⟩ := (hp 1 _ _ rfl rfl).str_inv Try.underlying9
    obtain ⟨n2, rfl, h2⟩ := (hp 2 _ _ rfl rfl).str_inv Try.underlying9
    obtain ⟨n3, rfl, h3⟩ := (hp 3 _ _ rfl rfl).int_inv Try.underlying3
    obtain ⟨n4, rfl, h4⟩ := (hp 4 _ _ rfl rfl).int_inv Try.underlying3
    obtain ⟨n5, rfl, h5⟩ := (hp 5 _ _ rfl rfl).int_inv Try.underlying3
    obtain ⟨n6, rfl, ⟨_, h6⟩, g6⟩ := (hp 6 _ _ rfl rfl).sl_inv Try.underlying29
    obtain ⟨n7, rfl, ⟨_, h7⟩, g7⟩ := (hp 7 _ _ rfl rfl).sl_inv Try.underlying30
    obtain ⟨n8, rfl, h8⟩ := (hp 8 _ _ rfl rfl).int_inv Try.underlying3
    obtain ⟨n9, rfl, h9⟩ := (hp 9 _ _ rfl rfl).int_inv Try.underlying3
    obtain ⟨fl, rfl, gf⟩ := read_list Fd.c Fd.In fun c hc => read_fd (g6 c hc)
    obtain ⟨pl, rfl, gp⟩ := read_list Pm.c Pm.In fun c hc => read_pm (g7 c hc)
    rw [List.length_map] at h6 h7
    exact ⟨⟨n0, n1, n2, n3, n4, n5, fl, pl, n8, n9⟩, rfl, ⟨len_le b48 h6, len_le b36 h7, h1, h2⟩, wf_i64 h0, wf_i64 h3, wf_i64 h4, wf_i64 h5, wf_i64 h8, wf_i64 h9, gf, gp⟩
theorem read_tab {a : AV} (h : ArgD Try.prog 22 a) : ∃ t : List Ty, a = tv t ∧ TOk t ∧ FNames t ∧ ∀ x ∈ t, x.In := by
  obtain ⟨es, rfl, hl, he⟩ := h.sl Try.underlying22
  obtain ⟨t, rfl, ht⟩ := read_list Ty.c Ty.In fun c hc => read_ty1 (he c hc)
  have h1 := hl.2
  rw [List.length_map] at h1
  exact ⟨t, rfl, ⟨len_le b32 h1, fun x hx => (ht x hx).ok⟩, fun x hx f hf => ((ht x hx).fd f hf).1, ht⟩
end Go.Proofs.Ytlhpcccffmfopaa

/- LayoutApart, of any argument. -/
namespace Go.Proofs.Ytlhpcccffmfopaa
open Go.ChangeShapes Go.WideShapes Go.ChangeAt Go.RowKit
theorem layoutApart_any {a0 a1 : AV} (h0 : ArgD Try.prog 22 a0) (h1 : ArgD Try.prog 3 a1) (v0 v1 : Value) (W : World) (hv : VRs ⟨W.cell?, fun _ _ => none⟩ [a0, a1] [v0, v1]) :
    Calls Try.prog 10 #[v0, v1] W fun e w' => e = .returned (.bool true) ∧ Below W.heap.size W w' := by
  obtain ⟨t, rfl, g1, g2, _⟩ := read_tab h0
  obtain ⟨x, rfl, _⟩ := h1.int Try.underlying3
  exact (LayoutApart_c g1 g2 x []).law (fun a v h => h) hv
end Go.Proofs.Ytlhpcccffmfopaa

/- The row LayoutApart, proved. -/
namespace Go.Proofs.Ytlhpcccffmfopaa
open Go.ChangeShapes Go.WideShapes Go.ChangeAt Go.RowKit

set_option maxRecDepth 100000 in
theorem layoutApart_lifted (os : Os) (started : os.Started) (H : Type) (enc : TypeId × Value → H) :
    ReturnsInHanded {} Try.checked os 10 .any (Rows.layoutApartSpec.pre6 enc Try.prog Try.f10 Rows.layoutApartRow.domain false) (Rows.layoutApartSpec.post enc Try.prog Try.f10 false true false false) := by
  refine returnsInHanded_of_change_sized (C := Try.checked) Try.own started (by kernel_rfl) Try.func10
    (ChangeSpec.witness6 (enc := enc) (C := Try.checked) false ⟨#[], #[.slice none 0 0, .int .i64 0], []⟩ 8 (by kernel_rfl) (by kernel_rfl) (by kernel_rfl) (by kernel_rfl)) ?_
  intro W base args ds gs before hval0 hW hcnd hsz _
  have hval : ∀ (j : Nat) t v, Try.f10.params[j]? = some t → args[j]? = some v → Value.okWide Try.prog W .any base t v := hval0
  have hW' := hW
  obtain ⟨p, q, hA0, hV, rfl, hfz, hnd⟩ := hW
  have hA : DataW.TrodAll enc Try.prog W 0 (fun _ => true) true Try.f10.params.toList args.toList ds p := hA0
  rw [Try.params10] at hA hval hsz
  obtain ⟨v0, v1, d0, d1, p0, p1, rfl, rfl, rfl, h0, h1⟩ := trodAll_two hA
  obtain ⟨rfl, rfl⟩ := trodVars_none hV
  obtain ⟨a0, ha0, hr0⟩ := read_val argL_ok (by decide) (hval 0 22 v0 rfl rfl) h0 (fun n hn => of_decide_eq_true (List.all_eq_true.1 hsz n (DataW.weights_mem_each (j := 0) rfl rfl n hn)))
  obtain ⟨a1, ha1, hr1⟩ := read_val argL_ok (by decide) (hval 1 3 v1 rfl rfl) h1 (fun n hn => of_decide_eq_true (List.all_eq_true.1 hsz n (DataW.weights_mem_each (j := 1) rfl rfl n hn)))
  clear hA0 hval0
  simp only [List.append_nil] at hW'
  have hlt := hW'.lt
  refine (layoutApart_any ha0 ha1 v0 v1 W (.cons hr0 (.cons hr1 .nil))).mono fun e W' ⟨he, hw⟩ => ?_
  subst he
  exact ⟨_, rfl, post_of_below (pa := p0 ++ p1) (pv := []) hW' (fun _ _ _ => trodAll_mk1 (shut_bool Try.underlying4 _)) (fun sp hsp => trodAll_mk2 (WideElems.Trod_stays Try.laidOut (by kernel_rfl) (of_decide_eq_true (by kernel_rfl)) h0 (fun x hx => hw.same (hlt x (by simp [hx]))) (fun x hx => hsp x (by simp [hx]))) (WideElems.Trod_stays Try.laidOut (by kernel_rfl) (of_decide_eq_true (by kernel_rfl)) h1 (fun x hx => hw.same (hlt x (by simp [hx]))) (fun x hx => hsp x (by simp [hx])))) (fun _ _ => rfl) (by simp)
    hw (ok_one (by kernel_rfl) rfl (okWide_bool_mk Try.underlying4 _))⟩

theorem layoutApart_holds : Rows.LayoutApartSaid :=
  OpenClaim.holds_of_wide 10 Try.f10 rfl rfl rfl rfl rfl rfl rfl ⟨rfl, rfl, rfl, rfl, rfl⟩ rfl rfl rfl rfl rfl (by kernel_rfl) Try.func10 (by kernel_rfl)
    (of_decide_eq_true (by kernel_rfl)) (by unfold Func.isWrapper; first | (rw [if_pos (by decide +kernel)]; kernel_rfl) | (rw [if_neg (by decide +kernel)]; exact ⟨rfl, rfl⟩))
    (fun os started H enc _ => layoutApart_lifted os started H enc)
end Go.Proofs.Ytlhpcccffmfopaa
