/- Plain law: which types are the same. -/
import Derived.Test.YtlhpcccffmfopaaGdA
namespace Go.Proofs.Ytlhpcccffmfopaa
set_option linter.unusedSectionVars false
set_option linter.unusedSimpArgs false
set_option linter.unusedVariables false

abbrev Pr := Int × Int
def InR (t : List Ty) (q : Pr) : Prop := placeP t q.1 ∧ placeP t q.2
/-- What is asked of the parts. -/
def stepP (t : List Ty) (R : Int → Int → Prop) (a b : Int) : Prop :=
  (((tyAt t a).form = 7 ∨ (tyAt t a).form = 8 ∨ (tyAt t a).form = 10) ∧ (tyAt t a).name = se ∧ (tyAt t b).name = se ∧ (tyAt t a).len = (tyAt t b).len ∧ R (tyAt t a).elem (tyAt t b).elem) ∨
  ((tyAt t a).form = 11 ∧ (tyAt t a).params.length = (tyAt t b).params.length ∧
    (∀ i, i < (tyAt t a).params.length → ((tyAt t a).params.getD i default).var = ((tyAt t b).params.getD i default).var ∧ R ((tyAt t a).params.getD i default).typ ((tyAt t b).params.getD i default).typ) ∧ R (tyAt t a).result (tyAt t b).result)
theorem stepP.mono {t : List Ty} {R R' : Int → Int → Prop} {a b : Int} (h : stepP t R a b) (hR : ∀ c d, R c d → R' c d) : stepP t R' a b := by
  rcases h with ⟨h1, h2, h3, h4, h5⟩ | ⟨h1, h2, h3, h4⟩
  · exact .inl ⟨h1, h2, h3, h4, hR _ _ h5⟩
  · exact .inr ⟨h1, h2, fun i hi => ⟨(h3 i hi).1, hR _ _ (h3 i hi).2⟩, hR _ _ h4⟩
/-- Closed under the parts. -/
def Clos (t : List Ty) (R : Int → Int → Prop) : Prop := ∀ c d, R c d → easyF t c d = some true ∨ (easyF t c d = none ∧ stepP t R c d)
def Sim (t : List Ty) (a b : Int) : Prop := ∃ R, R a b ∧ Clos t R
theorem Sim.un {t : List Ty} {a b : Int} (h : Sim t a b) : easyF t a b = some true ∨ (easyF t a b = none ∧ stepP t (Sim t) a b) := by
  obtain ⟨R, h1, h2⟩ := h
  rcases h2 a b h1 with h | ⟨h, h'⟩
  · exact .inl h
  · exact .inr ⟨h, h'.mono fun c d hr => ⟨R, hr, h2⟩⟩
theorem Sim.easy {t : List Ty} {a b : Int} (h : easyF t a b = some true) : Sim t a b := ⟨fun c d => c = a ∧ d = b, ⟨rfl, rfl⟩, fun c d ⟨e1, e2⟩ => by subst e1 e2; exact .inl h⟩
theorem Sim.clos (t : List Ty) : Clos t (Sim t) := fun _ _ h => h.un
theorem Sim.mk {t : List Ty} {a b : Int} (h : easyF t a b = none) (h2 : stepP t (Sim t) a b) : Sim t a b :=
  ⟨fun c d => (c = a ∧ d = b) ∨ Sim t c d, .inl ⟨rfl, rfl⟩, fun c d hcd => by
    rcases hcd with ⟨rfl, rfl⟩ | hcd
    · exact .inr ⟨h, h2.mono fun _ _ k => .inr k⟩
    · rcases hcd.un with k | ⟨k, k'⟩
      · exact .inl k
      · exact .inr ⟨k, k'.mono fun _ _ k => .inr k⟩⟩
/-- Asked, or plain. -/
def CovP (t : List Ty) (P : List Pr) (a b : Int) : Prop := easyF t a b = some true ∨ (easyF t a b = none ∧ (a, b) ∈ P)
theorem CovP.mono {t : List Ty} {P Q : List Pr} {a b : Int} (h : CovP t P a b) (hs : ∀ q ∈ P, q ∈ Q) : CovP t Q a b := h.imp_right fun k => ⟨k.1, hs _ k.2⟩
/-- What was asked since then, and answered yes. -/
structure ExtQ (t : List Ty) (P Q : List Pr) : Prop where
  sub : ∃ l, Q = P ++ l ∧ ∀ q ∈ l, easyF t q.1 q.2 = none ∧ stepP t (CovP t Q) q.1 q.2
  nd : Q.Nodup
  inr : ∀ q ∈ Q, InR t q
theorem ExtQ.mem {t : List Ty} {P Q : List Pr} (h : ExtQ t P Q) : ∀ q ∈ P, q ∈ Q := by
  obtain ⟨l, rfl, _⟩ := h.sub
  exact fun q hq => List.mem_append_left _ hq
theorem ExtQ.rfl {t : List Ty} {P : List Pr} (h : P.Nodup) (hr : ∀ q ∈ P, InR t q) : ExtQ t P P := ⟨⟨[], by simp, by simp⟩, h, hr⟩
theorem ExtQ.trans {t : List Ty} {P Q S : List Pr} (h : ExtQ t P Q) (k : ExtQ t Q S) : ExtQ t P S := by
  obtain ⟨l, e, hl⟩ := h.sub
  have hm := k.mem
  obtain ⟨l', e', hl'⟩ := k.sub
  refine ⟨⟨l ++ l', by rw [e', e, List.append_assoc], fun q hq => ?_⟩, k.nd, k.inr⟩
  rcases List.mem_append.1 hq with hq | hq
  · exact ⟨(hl q hq).1, (hl q hq).2.mono fun c d hc => hc.mono hm⟩
  · exact hl' q hq
/-- The pair itself, once its parts are covered. -/
theorem ExtQ.add {t : List Ty} {P Q : List Pr} {a b : Int} (k : ExtQ t (P ++ [(a, b)]) Q) (he : easyF t a b = none) (hs : stepP t (CovP t Q) a b) : ExtQ t P Q ∧ CovP t Q a b := by
  have hm := k.mem (a, b) (by simp)
  obtain ⟨l, e, hl⟩ := k.sub
  refine ⟨⟨⟨(a, b) :: l, by rw [e, List.append_assoc]; rfl, fun q hq => ?_⟩, k.nd, k.inr⟩, .inr ⟨he, hm⟩⟩
  rcases List.mem_cons.1 hq with rfl | hq
  · exact ⟨he, hs⟩
  · exact hl q hq
theorem ExtQ.sim {t : List Ty} {Q : List Pr} {a b : Int} (h : ExtQ t [] Q) (hc : CovP t Q a b) : Sim t a b := by
  obtain ⟨l, e, hl⟩ := h.sub
  rw [List.nil_append] at e
  subst e
  exact ⟨CovP t Q, hc, fun c d hcd => by
    rcases hcd with k | ⟨k, km⟩
    · exact .inl k
    · exact .inr (hl _ km)⟩
/-- What the search gives. -/
inductive ResS (t : List Ty) (P : List Pr) (a b : Int) : Bool → List Pr → Prop
  | yes {Q : List Pr} : ExtQ t P Q → CovP t Q a b → ResS t P a b true Q
  | no {Q : List Pr} : ¬ Sim t a b → ResS t P a b false Q
/-- How many pairs are not asked yet. -/
def allP (n : Nat) : List Pr := (List.range n).flatMap fun (i : Nat) => (List.range n).map fun (j : Nat) => ((i : Int), (j : Int))
def meas (n : Nat) (P : List Pr) : Nat := ((allP n).filter fun q => decide (q ∉ P)).length
theorem filter_le {α : Type} {p q : α → Bool} (h : ∀ y, q y = true → p y = true) (l : List α) : (l.filter q).length ≤ (l.filter p).length := by
  rw [← List.countP_eq_length_filter, ← List.countP_eq_length_filter]
  exact List.countP_mono_left fun x _ => h x
theorem filter_lt {α : Type} {p q : α → Bool} {x : α} : ∀ {l : List α}, (∀ y, q y = true → p y = true) → x ∈ l → p x = true → q x = false → (l.filter q).length < (l.filter p).length
  | y :: l, h, hx, h1, h2 => by
    have le := filter_le h l
    rcases List.mem_cons.1 hx with rfl | hx
    · rw [List.filter_cons_of_pos h1, List.filter_cons_of_neg (by rw [h2]; simp), List.length_cons]
      omega
    · have ih := filter_lt h hx h1 h2
      cases hq : q y
      · rw [List.filter_cons_of_neg (by rw [hq]; simp)]
        cases hp : p y
        · rw [List.filter_cons_of_neg (by rw [hp]; simp)]; exact ih
        · rw [List.filter_cons_of_pos hp, List.length_cons]; omega
      · rw [List.filter_cons_of_pos hq, List.filter_cons_of_pos (h y hq), List.length_cons, List.length_cons]; omega
theorem meas_lt {t : List Ty} {P : List Pr} {a b : Int} (h : InR t (a, b)) (hn : (a, b) ∉ P) : meas t.length (P ++ [(a, b)]) < meas t.length P := by
  obtain ⟨⟨a0, a1⟩, b0, b1⟩ := h
  refine filter_lt (x := (a, b)) (fun y hy => ?_) ?_ (by simpa using hn) (by simp)
  · simp at hy ⊢
    exact hy.1
  · simp only at a0 a1 b0 b1
    rw [allP, List.mem_flatMap]
    refine ⟨a.toNat, List.mem_range.2 (by omega), List.mem_map.2 ⟨b.toNat, List.mem_range.2 (by omega), ?_⟩⟩
    rw [show ((a.toNat : Nat) : Int) = a by omega, show ((b.toNat : Nat) : Int) = b by omega]
theorem meas_le {n : Nat} {P Q : List Pr} (h : ∀ q ∈ P, q ∈ Q) : meas n Q ≤ meas n P :=
  filter_le (fun y hy => by simp at hy ⊢; exact fun k => hy (h y k)) _
/-- The keys. -/
def pkey (p : Pr) : Value := .agg #[.int .i64 p.1, .int .i64 p.2]
theorem pkey_eq (a b : Pr) : keq (pkey a) (pkey b) = decide (a = b) := by
  obtain ⟨a1, a2⟩ := a
  obtain ⟨b1, b2⟩ := b
  simp only [pkey, keq, keqL, keq1, Bool.and_true]
  by_cases h1 : a1 = b1 <;> by_cases h2 : a2 = b2 <;> simp [h1, h2]
theorem pkey_of (a b : Int) : keyOf (.agg [iv a, iv b]) = some (pkey (a, b)) := rfl
abbrev ktQ : KT := ⟨true, [.i .i64, .i .i64]⟩
theorem pkey_fits {a b : Int} (ha : 0 ≤ a ∧ a < 9000000) (hb : 0 ≤ b ∧ b < 9000000) : keyFits ktQ (pkey (a, b)) = true := by
  have m0 : IntKind.i64.min ≤ 0 := by decide
  have m1 : (9000000 : Int) ≤ IntKind.i64.max := by decide
  simp only [keyFits, pkey, fitL, kcFit]
  simp
  omega
/-! the other way round -/
theorem RecF.symm {x y : Ty} (h : RecF x y) : RecF y x := ⟨h.1.symm, h.2.1.symm, h.2.2.1.symm, by rw [← h.2.2.1]; exact h.2.2.2⟩
theorem NamedF.symm {x y : Ty} (h : NamedF x y) : NamedF y x := ⟨by rw [← h.2.1]; exact h.1, h.2.1.symm, h.2.2.1.symm, h.2.2.2.2, h.2.2.2.1⟩
theorem easy_symm (t : List Ty) (a b : Int) : easyF t a b = easyF t b a := by
  unfold easyF
  by_cases h1 : a = b
  · rw [if_pos h1, if_pos (show b = a from h1.symm)]
  rw [if_neg h1, if_neg (show ¬ b = a from fun h => h1 h.symm)]
  by_cases h2 : (tyAt t a).form = 9 ∨ (tyAt t b).form = 9
  · rw [if_pos h2, if_pos (show (tyAt t b).form = 9 ∨ (tyAt t a).form = 9 from h2.symm)]
    by_cases h3 : RecF (tyAt t a) (tyAt t b)
    · rw [dect h3, dect h3.symm]
    · rw [decf h3, decf fun h => h3 h.symm]
  rw [if_neg h2, if_neg (show ¬ ((tyAt t b).form = 9 ∨ (tyAt t a).form = 9) from fun h => h2 h.symm)]
  by_cases h3 : NamedF (tyAt t a) (tyAt t b)
  · rw [if_pos h3, if_pos (show NamedF (tyAt t b) (tyAt t a) from h3.symm)]
  rw [if_neg h3, if_neg (show ¬ NamedF (tyAt t b) (tyAt t a) from fun h => h3 h.symm)]
  by_cases h4 : (tyAt t a).form = (tyAt t b).form
  · rw [if_neg (show ¬ (tyAt t a).form ≠ (tyAt t b).form from fun h => h h4), if_neg (show ¬ (tyAt t b).form ≠ (tyAt t a).form from fun h => h h4.symm)]
  · rw [if_pos (show (tyAt t a).form ≠ (tyAt t b).form from h4), if_pos (show (tyAt t b).form ≠ (tyAt t a).form from fun h => h4 h.symm)]
theorem easy_form {t : List Ty} {a b : Int} (h : easyF t a b = none) : (tyAt t a).form = (tyAt t b).form := by
  unfold easyF at h
  split at h
  · cases h
  split at h
  · cases h
  split at h
  · cases h
  split at h
  · cases h
  · rename_i k; exact Decidable.not_not.1 k
theorem stepP.symm {t : List Ty} {R : Int → Int → Prop} {a b : Int} (hf : (tyAt t a).form = (tyAt t b).form) (h : stepP t R a b) : stepP t (fun c d => R d c) b a := by
  rcases h with ⟨h1, h2, h3, h4, h5⟩ | ⟨h1, h2, h3, h4⟩
  · exact .inl ⟨by omega, h3, h2, h4.symm, h5⟩
  · exact .inr ⟨by omega, h2.symm, fun i hi => ⟨(h3 i (by omega)).1.symm, (h3 i (by omega)).2⟩, h4⟩
theorem Sim.symm {t : List Ty} {a b : Int} (h : Sim t a b) : Sim t b a := ⟨fun c d => Sim t d c, h, fun c d hcd => by
  rcases hcd.un with k | ⟨k, k'⟩
  · exact .inl (by rw [easy_symm]; exact k)
  · exact .inr ⟨by rw [easy_symm]; exact k, k'.symm (easy_form k)⟩⟩
theorem Sim.refl (t : List Ty) (a : Int) : Sim t a a := .easy (by unfold easyF; rw [if_pos rfl])
end Go.Proofs.Ytlhpcccffmfopaa

/- tables.pairs.same: parameters, one by one. -/
namespace Go.Proofs.Ytlhpcccffmfopaa
set_option linter.unusedSimpArgs false
set_option linter.unusedVariables false
set_option maxRecDepth 20000
set_option maxHeartbeats 4000000
open Go.RowKit

abbrev mpB (P : List Pr) : ABlk := .map ktQ P.length (mkK pkey 0 P)
theorem mpB_refs (P : List Pr) : (mpB P).refs = [] := mkK_refs pkey ktQ P.length 0 P
theorem cl.map {H : List ABlk} (h : cl H) {mb : Nat} {P : List Pr} : cl (H.set mb (mpB P)) := fun b k hk r hr => by
  rw [List.length_set]
  by_cases e : mb = b
  · subst e
    by_cases hl : mb < H.length
    · rw [List.getElem?_set_self hl] at hk
      cases hk
      rw [mpB_refs] at hr; cases hr
    · rw [List.getElem?_eq_none (by rw [List.length_set]; omega)] at hk; cases hk
  · rw [List.getElem?_set_ne e] at hk
    exact h b k hk r hr
theorem lt_of_at {H : List ABlk} {b : Nat} {k : ABlk} (h : H[b]? = some k) : b < H.length := (List.getElem?_eq_some_iff.1 h).1
theorem at_app {H : List ABlk} {b : Nat} {k : ABlk} (h : H[b]? = some k) (l : List ABlk) : (H ++ l)[b]? = some k := by rw [List.getElem?_append_left (lt_of_at h)]; exact h
theorem set_app {H : List ABlk} {b : Nat} {k : ABlk} (h : H[b]? = some k) (x : ABlk) (l : List ABlk) : (H ++ l).set b x = H.set b x ++ l := List.set_append_left _ _ (lt_of_at h)
theorem put_self {H : List ABlk} {b : Nat} {k : ABlk} (h : H[b]? = some k) : H.set b k = H := by
  refine List.ext_getElem? fun i => ?_
  by_cases e : b = i
  · subst e; rw [List.getElem?_set_self (lt_of_at h), h]
  · rw [List.getElem?_set_ne e]
def SameR (t : List Ty) (P : List Pr) (a b : Int) (mb : Nat) (H : List ABlk) (v : AV) (H' : List ABlk) : Prop := ∃ r Q, v = bv r ∧ H' = H.set mb (mpB Q) ∧ ResS t P a b r Q
/-- The search, as far as so many pairs are left. -/
def SameK (t : List Ty) (n : Nat) : Prop := ∀ (P : List Pr) (a b : Int) (H : List ABlk) (mb : Nat), meas t.length P ≤ n → InR t (a, b) → P.Nodup → (∀ q ∈ P, InR t q) → H[mb]? = some (mpB P) →
  ACalls Try.prog 62 [.mp mb, tv t, iv a, iv b] H (SameR t P a b mb H)
inductive ResC (t : List Ty) (P : List Pr) (x y : Pm) : Bool → List Pr → Prop
  | yes {Q : List Pr} : ExtQ t P Q → x.var = y.var → CovP t Q x.typ y.typ → ResC t P x y true Q
  | no {Q : List Pr} : (x.var ≠ y.var ∨ ¬ Sim t x.typ y.typ) → ResC t P x y false Q
theorem clos_c {t : List Ty} {n : Nat} (hk : SameK t n) {P : List Pr} (hms : meas t.length P ≤ n) (hnd : P.Nodup) (hin : ∀ q ∈ P, InR t q) {x y : Pm} (hx : placeP t x.typ) (hy : placeP t y.typ) {K : List ABlk} {mb pb tb : Nat}
    (hm : K[mb]? = some (mpB P)) (hp : K[pb]? = some (.cells [.mp mb])) (htb : K[tb]? = some (.cells [tv t])) :
    ACalls Try.prog 75 [.agg [bv x.var, iv x.typ], .agg [bv y.var, iv y.typ], .ptr pb 0, .ptr tb 0] K fun v H' => ∃ r Q, v = bv r ∧ H' = K.set mb (mpB Q) ∧ ResC t P x y r Q := by
  refine ACalls.into Try.func75 cc75 rr75 fun hcl => ?_
  have hp' := at_app hp
  have htb' := at_app htb
  by_cases hv : x.var = y.var
  · have hve : (x.var == y.var) = true := by rw [hv]; simp
    simp (maxSteps := 2000000) (disch := omega) only [Try.ntmps75, c75, r75, hp', htb', hve, go_sem, eq_self, if_true, if_false, reduceCtorEq, Int.reduceToNat, Int.reducePow, Nat.reducePow, Nat.reduceMul, Int.reduceLT, Int.reduceLE, Nat.reduceAdd, Nat.reduceLeDiff, Nat.reduceBEq, Nat.reduceSub, Int.reduceSub, Int.reduceMul, Int.reduceNeg, Int.reduceAdd]
    refine Cont.rel (hk P x.typ y.typ _ mb hms ⟨hx, hy⟩ hnd hin (at_app hm _)) ?_
    rintro v H' ⟨r, Q, rfl, rfl, hr⟩
    simp (maxSteps := 2000000) (disch := omega) only [go_sem, eq_self, if_true, if_false, reduceCtorEq, Int.reduceToNat, Int.reducePow, Nat.reducePow, Nat.reduceMul, Int.reduceLT, Int.reduceLE, Nat.reduceAdd, Nat.reduceLeDiff, Nat.reduceBEq, Nat.reduceSub, Int.reduceSub, Int.reduceMul, Int.reduceNeg, Int.reduceAdd]
    rw [set_app hm]
    refine Ret.drop _ (K.set mb (mpB Q)) (by simp) hcl.map (.rfl _) (by simp [refs]) ⟨r, Q, rfl, rfl, ?_⟩
    cases hr with
    | yes h1 h2 => exact .yes h1 hv h2
    | no h1 => exact .no (.inr h1)
  · have hve : (x.var == y.var) = false := by simp [hv]
    simp (maxSteps := 2000000) (disch := omega) only [Try.ntmps75, c75, r75, hp', htb', hve, go_sem, eq_self, if_true, if_false, reduceCtorEq, Int.reduceToNat, Int.reducePow, Nat.reducePow, Nat.reduceMul, Int.reduceLT, Int.reduceLE, Nat.reduceAdd, Nat.reduceLeDiff, Nat.reduceBEq, Nat.reduceSub, Int.reduceSub, Int.reduceMul, Int.reduceNeg, Int.reduceAdd]
    refine Ret.drop _ K (Nat.le_refl _) hcl (.rfl _) (by simp [refs]) ⟨false, P, rfl, (put_self hm).symm, .no (.inl hv)⟩
/-- Two lists of parameters. -/
inductive ResL (t : List Ty) (P : List Pr) (xs ys : List Pm) : Bool → List Pr → Prop
  | yes {Q : List Pr} : ExtQ t P Q → xs.length = ys.length → (∀ i, i < xs.length → (xs.getD i default).var = (ys.getD i default).var ∧ CovP t Q (xs.getD i default).typ (ys.getD i default).typ) → ResL t P xs ys true Q
  | no {Q : List Pr} : (xs.length = ys.length → ∃ i, i < xs.length ∧ ((xs.getD i default).var ≠ (ys.getD i default).var ∨ ¬ Sim t (xs.getD i default).typ (ys.getD i default).typ)) → ResL t P xs ys false Q
theorem eqf_c {t : List Ty} {n : Nat} (hk : SameK t n) {P : List Pr} (hms : meas t.length P ≤ n) (hnd : P.Nodup) (hin : ∀ q ∈ P, InR t q) {xs ys : List Pm} (hx : ∀ p ∈ xs, placeP t p.typ) (hy : ∀ p ∈ ys, placeP t p.typ) (lx : xs.length ≤ 9000000) (ly : ys.length ≤ 9000000) {K : List ABlk} {mb pb tb : Nat}
    (hm : K[mb]? = some (mpB P)) (hp : K[pb]? = some (.cells [.mp mb])) (htb : K[tb]? = some (.cells [tv t])) :
    ACalls Try.prog 74 [pmv xs, pmv ys, .fn 75 [.ptr pb 0, .ptr tb 0]] K fun v H' => ∃ r Q, v = bv r ∧ H' = K.set mb (mpB Q) ∧ ResL t P xs ys r Q := by
  refine ACalls.into Try.func74 cc74 rr74 fun hcl => ?_
  have hck : callOk Try.prog 75 = true := by kernel_rfl
  have hbm : pb ≠ mb := fun e => by subst e; rw [hp] at hm; cases hm
  have hbt : tb ≠ mb := fun e => by subst e; rw [htb] at hm; cases hm
  by_cases hl : xs.length = ys.length
  rotate_left
  · simp (maxSteps := 2000000) (disch := omega) only [Try.ntmps74, c74, r74, List.length_map, go_sem, eq_self, if_true, if_false, reduceCtorEq, Int.reduceToNat, Int.reducePow, Nat.reducePow, Nat.reduceMul, Int.reduceLT, Int.reduceLE, Nat.reduceAdd, Nat.reduceLeDiff, Nat.reduceBEq, Nat.reduceSub, Int.reduceSub, Int.reduceMul, Int.reduceNeg, Int.reduceAdd]
    exact Ret.keep ⟨false, P, rfl, (put_self hm).symm, .no fun h => absurd h hl⟩
  simp (maxSteps := 2000000) (disch := omega) only [Try.ntmps74, c74, r74, List.length_map, go_sem, eq_self, if_true, if_false, reduceCtorEq, Int.reduceToNat, Int.reducePow, Nat.reducePow, Nat.reduceMul, Int.reduceLT, Int.reduceLE, Nat.reduceAdd, Nat.reduceLeDiff, Nat.reduceBEq, Nat.reduceSub, Int.reduceSub, Int.reduceMul, Int.reduceNeg, Int.reduceAdd]
  obtain ⟨S, hS⟩ : ∃ S : Nat → List AV, ∀ i, S i = [.any, pmv ys, .fn 75 [.ptr pb 0, .ptr tb 0], .any, .any, .any, bv false, .any, .any, .any, .any, .any, .any, .any, .any, pmv xs, iv xs.length, iv i] ++ List.replicate 14 .any := ⟨_, fun _ => rfl⟩
  obtain ⟨G, hG⟩ : ∃ G : List Pr → List ABlk, ∀ Q, G Q = K.set mb (mpB Q) := ⟨_, fun _ => rfl⟩
  refine W.loopG (γ := Nat × List Pr) (fun g => xs.length - g.1) (fun g => S g.1) (fun g => G g.2) (fun g => g.1 ≤ xs.length ∧ ExtQ t P g.2 ∧ ∀ j, j < g.1 → (xs.getD j default).var = (ys.getD j default).var ∧ CovP t g.2 (xs.getD j default).typ (ys.getD j default).typ) (0, P) (by rw [hG, put_self hm, hS]; exact Wk.slots (by (try simp only [List.replicate, List.cons_append, List.nil_append]); repeat' first | exact WkL.nil | refine WkL.cons (Wk1.rfl _) ?_ | refine WkL.cons Wk1.esl ?_ | refine WkL.cons (Wk1.gsl _ _ _) ?_ | refine WkL.cons (Wk1.any _) ?_)) ⟨by omega, .rfl hnd hin, fun j hj => by omega⟩ (fun g hg => ?_)
  obtain ⟨i, Q⟩ := g
  obtain ⟨q1, q2, q3⟩ := hg
  simp only at q1 q2 q3
  simp only [hS]
  simp (maxSteps := 2000000) (disch := omega) only [c74l0, List.length_map, go_sem, eq_self, if_true, if_false, reduceCtorEq, Int.reduceToNat, Int.reducePow, Nat.reducePow, Nat.reduceMul, Int.reduceLT, Int.reduceLE, Nat.reduceAdd, Nat.reduceLeDiff, Nat.reduceBEq, Nat.reduceSub, Int.reduceSub, Int.reduceMul, Int.reduceNeg, Int.reduceAdd]
  refine Br.dec (fun hc => ?_) (fun hc => ?_) <;> simp (maxSteps := 2000000) (disch := omega) only [go_sem, eq_self, if_true, if_false, reduceCtorEq, Int.reduceToNat, Int.reducePow, Nat.reducePow, Nat.reduceMul, Int.reduceLT, Int.reduceLE, Nat.reduceAdd, Nat.reduceLeDiff, Nat.reduceBEq, Nat.reduceSub, Int.reduceSub, Int.reduceMul, Int.reduceNeg, Int.reduceAdd]
  · have hia := iaA_pm (t := xs) (a := (i : Int)) (by omega) (by omega)
    have hib := iaA_pm (t := ys) (a := (i : Int)) (by omega) (by omega)
    rw [pmAt, Int.toNat_natCast] at hia hib
    have mx : xs.getD i default ∈ xs := by rw [List.getD_eq_getElem?_getD, List.getElem?_eq_getElem (by omega)]; exact List.getElem_mem _
    have my : ys.getD i default ∈ ys := by rw [List.getD_eq_getElem?_getD, List.getElem?_eq_getElem (by omega)]; exact List.getElem_mem _
    have px := hx _ mx
    have py := hy _ my
    have hno : ((xs.getD i default).var ≠ (ys.getD i default).var ∨ ¬ Sim t (xs.getD i default).typ (ys.getD i default).typ) → ∃ i, i < xs.length ∧ ((xs.getD i default).var ≠ (ys.getD i default).var ∨ ¬ Sim t (xs.getD i default).typ (ys.getD i default).typ) := fun h => ⟨i, by omega, h⟩
    have hyes : ∀ Q', ExtQ t Q Q' → (xs.getD i default).var = (ys.getD i default).var → CovP t Q' (xs.getD i default).typ (ys.getD i default).typ → ∀ j, j < i + 1 → (xs.getD j default).var = (ys.getD j default).var ∧ CovP t Q' (xs.getD j default).typ (ys.getD j default).typ := fun Q' h1 h2 h3 j hj => by
      rcases Nat.lt_or_ge j i with h | h
      · exact ⟨(q3 j h).1, (q3 j h).2.mono h1.mem⟩
      · rw [show j = i by omega]; exact ⟨h2, h3⟩
    generalize xs.getD i default = x at *
    generalize ys.getD i default = y at *
    have hmQ : ∀ l, (G Q ++ l)[mb]? = some (mpB Q) := fun l => at_app (by rw [hG, List.getElem?_set_self (lt_of_at hm)]) l
    have hpQ : ∀ l, (G Q ++ l)[pb]? = some (.cells [.mp mb]) := fun l => at_app (by rw [hG, List.getElem?_set_ne hbm.symm]; exact hp) l
    have htQ : ∀ l, (G Q ++ l)[tb]? = some (.cells [tv t]) := fun l => at_app (by rw [hG, List.getElem?_set_ne hbt.symm]; exact htb) l
    simp (maxSteps := 2000000) (disch := omega) only [hia, hib, Pm.c, go_sem, eq_self, if_true, if_false, reduceCtorEq, Int.reduceToNat, Int.reducePow, Nat.reducePow, Nat.reduceMul, Int.reduceLT, Int.reduceLE, Nat.reduceAdd, Nat.reduceLeDiff, Nat.reduceBEq, Nat.reduceSub, Int.reduceSub, Int.reduceMul, Int.reduceNeg, Int.reduceAdd]
    refine ⟨hck, Cont.rel (clos_c hk (P := Q) (Nat.le_trans (meas_le q2.mem) hms) q2.nd q2.inr px py (hmQ _) (hpQ _) (htQ _)) ?_⟩
    rintro v H' ⟨r, Q', rfl, rfl, hr⟩
    have hGQ : (G Q).set mb (mpB Q') = G Q' := by rw [hG, hG, List.set_set]
    have hl2 : (G Q').length = K.length := by rw [hG, List.length_set]
    have hcG : cl (G Q') := by rw [hG]; exact hcl.map
    rw [set_app (k := mpB Q) (by have := hmQ []; rwa [List.append_nil] at this), hGQ]
    cases hr with
    | yes h1 h2 h3 =>
      simp (maxSteps := 2000000) (disch := omega) only [go_sem, eq_self, if_true, if_false, reduceCtorEq, Int.reduceToNat, Int.reducePow, Nat.reducePow, Nat.reduceMul, Int.reduceLT, Int.reduceLE, Nat.reduceAdd, Nat.reduceLeDiff, Nat.reduceBEq, Nat.reduceSub, Int.reduceSub, Int.reduceMul, Int.reduceNeg, Int.reduceAdd]
      refine Nxt.mk (i + 1, Q') (by simp only; omega) (Wk.drop (by (try simp only [List.replicate, List.cons_append, List.nil_append]); repeat' first | exact WkL.nil | refine WkL.cons (Wk1.rfl _) ?_ | refine WkL.cons Wk1.esl ?_ | refine WkL.cons (Wk1.gsl _ _ _) ?_ | refine WkL.cons (Wk1.any _) ?_) (by rw [hl2]; exact Nat.le_refl _) hcG (fun r hr => ?_)) ⟨by simp only; omega, q2.trans h1, hyes Q' h1 h2 h3⟩
      have h1 := lt_of_at hp
      have h2 := lt_of_at htb
      simp only [hS, refs, refs.refsL, List.replicate, List.cons_append, List.nil_append, List.append_nil, List.mem_cons, List.not_mem_nil, or_false, List.append_assoc] at hr
      rcases hr with rfl | rfl <;> (rw [hl2]; assumption)
    | no h1 =>
      simp (maxSteps := 2000000) (disch := omega) only [go_sem, eq_self, if_true, if_false, reduceCtorEq, Int.reduceToNat, Int.reducePow, Nat.reducePow, Nat.reduceMul, Int.reduceLT, Int.reduceLE, Nat.reduceAdd, Nat.reduceLeDiff, Nat.reduceBEq, Nat.reduceSub, Int.reduceSub, Int.reduceMul, Int.reduceNeg, Int.reduceAdd]
      exact Ret.drop _ (G Q') (by rw [hl2]; exact Nat.le_refl _) hcG (.rfl _) (by simp [refs]) ⟨false, Q', rfl, hG Q', .no fun _ => hno h1⟩
  · exact Ret.keep ⟨true, Q, rfl, hG Q, .yes q2 hl fun j hj => q3 j (by omega)⟩
end Go.Proofs.Ytlhpcccffmfopaa

/- tables.pairs.same, in general; tables.Same. -/
namespace Go.Proofs.Ytlhpcccffmfopaa
set_option linter.unusedSimpArgs false
set_option linter.unusedVariables false
set_option maxRecDepth 20000
set_option maxHeartbeats 4000000
open Go.RowKit

theorem GoodP.prc {t : List Ty} (h : GoodP t) {a : Int} (h0 : 0 ≤ a) (h1 : a < t.length) (f : (tyAt t a).form = 11) : (∀ p ∈ (tyAt t a).params, placeP t p.typ) ∧ placeP t (tyAt t a).result := by
  rcases h.at_ h0 h1 with ⟨h7, e⟩ | ⟨h7, hf⟩
  · rw [e] at f; simp [bt] at f; omega
  · obtain ⟨⟨_, hr⟩, hp⟩ := FrmP.f11 hf f
    refine ⟨fun p hm => ?_, ?_⟩
    · rcases hp p hm with k | k
      · exact part_in k
      · have := form_in k (by decide); exact ⟨this.1, this.2.1⟩
    · have hl := h.len
      rcases hr with k | k
      · exact ⟨by omega, by omega⟩
      · have := formA_ne (t := t) (n := (tyAt t a).result) (by rcases k with k | k | k <;> omega)
        exact ⟨this.1, this.2.1⟩
theorem GoodP.none_form {t : List Ty} (h : GoodP t) {a b : Int} (ha : placeP t a) (hb : placeP t b) (he : easyF t a b = none) : (tyAt t a).form = 7 ∨ (tyAt t a).form = 8 ∨ (tyAt t a).form = 10 ∨ (tyAt t a).form = 11 := by
  have hf := easy_form he
  have hne : a ≠ b := fun e => by unfold easyF at he; rw [if_pos e] at he; cases he
  have h9 : (tyAt t a).form ≠ 9 := fun e => by
    unfold easyF at he; rw [if_neg hne, if_pos (.inl e)] at he; cases he
  rcases h.at_ ha.1 ha.2 with ⟨h7, e⟩ | ⟨h7, e⟩
  · rw [e] at hf
    rcases h.at_ hb.1 hb.2 with ⟨k7, e'⟩ | ⟨k7, e'⟩
    · rw [e'] at hf; simp only [bt] at hf; exact absurd hf hne
    · have := FrmP.form e'
      simp only [bt] at hf
      have := ha.1
      omega
  · have := FrmP.form e
    omega
theorem sim_no {t : List Ty} {a b : Int} (he : easyF t a b = some false) : ¬ Sim t a b := fun h => by
  rcases h.un with k | ⟨k, _⟩ <;> rw [he] at k <;> cases k
theorem sim_none {t : List Ty} {a b : Int} (he : easyF t a b = none) (hs : ¬ stepP t (Sim t) a b) : ¬ Sim t a b := fun h => by
  rcases h.un with k | ⟨_, k⟩
  · rw [he] at k; cases k
  · exact hs k
abbrev SS2 (mb : Nat) (t : List Ty) (a b : Int) (H : List ABlk) : List AV := SS1 mb t a b H
theorem sameK {t : List Ty} (ht : TT t) (hg : GoodP t) : ∀ n, SameK t n := by
  intro n
  induction n using Nat.strongRecOn with
  | _ n ih =>
    intro P a b H mb hms hin hnd hir hmb
    obtain ⟨⟨a0, a1⟩, b0, b1⟩ := hin
    have htl := ht.s.1
    simp only at a0 a1 b0 b1
    have hmbl := lt_of_at hmb
    refine same_w ht.k a0 a1 b0 b1 mb H (fun hcl r he l => ?_) (fun hcl he s H' hj => ?_)
    · refine Ret.drop _ H (Nat.le_refl _) hcl (.rfl _) (by simp [refs]) ⟨r, P, rfl, (put_self hmb).symm, ?_⟩
      cases r with
      | true => exact .yes (.rfl hnd hir) (.inl he)
      | false => exact .no (sim_no he)
    obtain ⟨rfl, rfl⟩ := hj
    have hff := easy_form he
    have h4f := hg.none_form ⟨a0, a1⟩ ⟨b0, b1⟩ he
    simp only [tl62, Try.ntmps62, c62, r62]
    have hmA := at_app hmb
    have hkf := pkey_fits (a := a) (b := b) ⟨a0, by omega⟩ ⟨b0, by omega⟩
    by_cases hm : (a, b) ∈ P
    · obtain ⟨c, es2, g1, _, g3, g4⟩ := mkK_yes (f := pkey) pkey_eq (s := (a, b)) (iv 2) (n := 0) hm
      refine wpA.W ?_
      simp (maxSteps := 2000000) (disch := omega) only [Ty.cs, hff, hmA, pkey_of, hkf, mapOf, g1, List.append_assoc, List.cons_append, List.nil_append, go_sem, eq_self, if_true, if_false, reduceCtorEq, Int.reduceToNat, Int.reducePow, Nat.reducePow, Nat.reduceMul, Int.reduceLT, Int.reduceLE, Nat.reduceAdd, Nat.reduceLeDiff, Nat.reduceBEq, Nat.reduceSub, Int.reduceSub, Int.reduceMul, Int.reduceNeg, Int.reduceAdd]
      refine Ret.drop _ H (Nat.le_refl _) hcl (.rfl _) (by simp [refs]) ⟨true, P, rfl, (put_self hmb).symm, .yes (.rfl hnd hir) (.inr ⟨he, hm⟩)⟩
    have g1 := mkK_no (f := pkey) pkey_eq (s := (a, b)) (n := 0) hm
    have g3 := mkK_new (f := pkey) pkey_eq (s := (a, b)) P (iv 0) 0 P.length (by omega)
    obtain ⟨P1, hP1⟩ : ∃ P1, P1 = P ++ [(a, b)] := ⟨_, rfl⟩
    obtain ⟨H1, hH1⟩ : ∃ H1, H1 = H.set mb (mpB P1) := ⟨_, rfl⟩
    have hl1 : H1.length = H.length := by rw [hH1, List.length_set]
    have hc1 : cl H1 := by rw [hH1]; exact hcl.map
    have hm1 : ∀ l, (H1 ++ l)[mb]? = some (mpB P1) := fun l => at_app (by rw [hH1, List.getElem?_set_self hmbl]) l
    have hx1 : ∀ l, (H ++ l).set mb (mpB P1) = H1 ++ l := fun l => by rw [set_app hmb, hH1]
    have hms1 : meas t.length P1 < n := by
      have := meas_lt (t := t) (P := P) (a := a) (b := b) ⟨⟨a0, a1⟩, b0, b1⟩ hm
      rw [hP1]; omega
    have hk := ih _ hms1
    have hnd1 : P1.Nodup := by
      rw [hP1]; exact List.nodup_append.2 ⟨hnd, by simp, fun q hq r hr => by simp at hr; subst hr; intro e; subst e; exact hm hq⟩
    have hir1 : ∀ q ∈ P1, InR t q := by
      rw [hP1]
      intro q hq
      rcases List.mem_append.1 hq with hq | hq
      · exact hir q hq
      · simp at hq; subst hq; exact ⟨⟨a0, a1⟩, b0, b1⟩
    refine W.cut (fun s H' => s = SS1 mb t a b H ∧ H' = H ++ bxs mb t (tyAt t a) (tyAt t b)) (wpA.W ?_) ?_
    · simp (maxSteps := 2000000) (disch := omega) only [Ty.cs, hff, hmA, pkey_of, hkf, mapOf, g1, List.append_assoc, List.cons_append, List.nil_append, go_sem, eq_self, if_true, if_false, reduceCtorEq, Int.reduceToNat, Int.reducePow, Nat.reducePow, Nat.reduceMul, Int.reduceLT, Int.reduceLE, Nat.reduceAdd, Nat.reduceLeDiff, Nat.reduceBEq, Nat.reduceSub, Int.reduceSub, Int.reduceMul, Int.reduceNeg, Int.reduceAdd]
      exact ⟨_, _, Wk.slots (by (try simp only [List.replicate, List.cons_append, List.nil_append]); repeat' first | exact WkL.nil | refine WkL.cons (Wk1.rfl _) ?_ | refine WkL.cons Wk1.esl ?_ | refine WkL.cons (Wk1.gsl _ _ _) ?_ | refine WkL.cons (Wk1.any _) ?_), rfl, rfl⟩
    rintro s H' ⟨rfl, rfl⟩
    refine W.cut (fun s H' => s = SS1 mb t a b H ∧ H' = H1 ++ bxs mb t (tyAt t a) (tyAt t b)) ?_ ?_
    · refine W.dregM 4 mb 103 104 105 106 99 102 ktQ (iv 0) (iv 0) (iv 1) (iv 1) P.length (P.length + 1) P.length (pkey (a, b)) (mkK pkey 0 P) (mkK pkey 0 P ++ [(pkey (a, b), iv 0, P.length)]) (mkK pkey 0 (P ++ [(a, b)])) rfl follows (by decide +kernel) rfl (by decide +kernel) (by decide) (hmA _) hkf (by rw [pkey_eq]; simp) (.inr ⟨g1, rfl, rfl, rfl, rfl⟩) rfl g3 rfl ?_
      have hlr : P.length + 1 = (P ++ [(a, b)]).length := by simp
      rw [hlr, ← hP1, hx1]
      simp (maxSteps := 2000000) (disch := omega) only [List.take_succ_cons, List.take_zero, pkey_of, List.append_assoc, List.cons_append, List.nil_append, go_sem, eq_self, if_true, if_false, reduceCtorEq, Int.reduceToNat, Int.reducePow, Nat.reducePow, Nat.reduceMul, Int.reduceLT, Int.reduceLE, Nat.reduceAdd, Nat.reduceLeDiff, Nat.reduceBEq, Nat.reduceSub, Int.reduceSub, Int.reduceMul, Int.reduceNeg, Int.reduceAdd]
      refine ⟨rfl, rfl, rfl, rfl, rfl, rfl, ?_⟩
      simp (maxSteps := 2000000) (disch := omega) only [go_sem, eq_self, if_true, if_false, reduceCtorEq, Int.reduceToNat, Int.reducePow, Nat.reducePow, Nat.reduceMul, Int.reduceLT, Int.reduceLE, Nat.reduceAdd, Nat.reduceLeDiff, Nat.reduceBEq, Nat.reduceSub, Int.reduceSub, Int.reduceMul, Int.reduceNeg, Int.reduceAdd]
      exact ⟨_, _, Wk.slots (by (try simp only [List.replicate, List.cons_append, List.nil_append]); repeat' first | exact WkL.nil | refine WkL.cons (Wk1.rfl _) ?_ | refine WkL.cons Wk1.esl ?_ | refine WkL.cons (Wk1.gsl _ _ _) ?_ | refine WkL.cons (Wk1.any _) ?_), rfl, rfl⟩
    rintro s H' ⟨rfl, rfl⟩
    have hH1s : ∀ Q, H1.set mb (mpB Q) = H.set mb (mpB Q) := fun Q => by rw [hH1, List.set_set]
    have hmS : ∀ Q l, (H1 ++ l).set mb (mpB Q) = H1.set mb (mpB Q) ++ l := fun Q l => set_app (by have := hm1 []; rwa [List.append_nil] at this) _ _
    have hlS : ∀ Q, (H1.set mb (mpB Q)).length = H1.length := fun Q => List.length_set
    have no : ∀ Q, ¬ stepP t (Sim t) a b → ∀ l, Ret r62 H.length (SameR t P a b mb H) (some (bv false)) (H1.set mb (mpB Q) ++ l) := fun Q h l =>
      Ret.drop _ (H1.set mb (mpB Q)) (by rw [hlS, hl1]; exact Nat.le_refl _) hc1.map (.rfl _) (by simp [refs]) ⟨false, Q, rfl, hH1s Q, .no (sim_none he h)⟩
    have no0 : ¬ stepP t (Sim t) a b → ∀ l, Ret r62 H.length (SameR t P a b mb H) (some (bv false)) (H1 ++ l) := fun h l => by
      have := no P1 h l
      rwa [hH1s, ← hH1] at this
    have yes : ∀ Q, ExtQ t P1 Q → stepP t (CovP t Q) a b → ∀ l, Ret r62 H.length (SameR t P a b mb H) (some (bv true)) (H1.set mb (mpB Q) ++ l) := fun Q h1 h2 l => by
      have := ExtQ.add (hP1 ▸ h1) he h2
      exact Ret.drop _ (H1.set mb (mpB Q)) (by rw [hlS, hl1]; exact Nat.le_refl _) hc1.map (.rfl _) (by simp [refs]) ⟨true, Q, rfl, hH1s Q, .yes this.1 this.2⟩
    have kx7 := hg.arr a0 a1
    have ky7 := hg.arr b0 b1
    have kx8 := hg.opn a0 a1
    have ky8 := hg.opn b0 b1
    have kx10 := hg.ptr a0 a1
    have ky10 := hg.ptr b0 b1
    have kx11 := hg.prc a0 a1
    have ky11 := hg.prc b0 b1
    have sx := (ht.s.2 _ (tyAt_mem a0 a1)).2.1
    have sy := (ht.s.2 _ (tyAt_mem b0 b1)).2.1
    have hst : ∀ R, stepP t R a b ↔ (((tyAt t a).form = 7 ∨ (tyAt t a).form = 8 ∨ (tyAt t a).form = 10) ∧ (tyAt t a).name = se ∧ (tyAt t b).name = se ∧ (tyAt t a).len = (tyAt t b).len ∧ R (tyAt t a).elem (tyAt t b).elem) ∨
      ((tyAt t a).form = 11 ∧ (tyAt t a).params.length = (tyAt t b).params.length ∧
        (∀ i, i < (tyAt t a).params.length → ((tyAt t a).params.getD i default).var = ((tyAt t b).params.getD i default).var ∧ R ((tyAt t a).params.getD i default).typ ((tyAt t b).params.getD i default).typ) ∧ R (tyAt t a).result (tyAt t b).result) := fun _ => .rfl
    clear hmA g1 g3 hkf hx1 ih
    generalize hxx : tyAt t a = x at *
    generalize hyy : tyAt t b = y at *
    refine wpA.W ?_
    have hss : SS1 mb t a b H = SS1 mb t a b H1 := by simp only [SS1, hl1]
    rw [hss]
    rw [← hl1] at no no0 yes ⊢
    by_cases f11 : x.form = 11
    rotate_left
    · have f3 : x.form = 7 ∨ x.form = 8 ∨ x.form = 10 := by omega
      have kx : placeP t x.elem := by
        rcases f3 with f | f | f
        · exact kx7 f
        · exact kx8 f
        · exact ⟨(kx10 f).1, (kx10 f).2.1⟩
      have ky : placeP t y.elem := by
        rcases f3 with f | f | f
        · exact ky7 (by omega)
        · exact ky8 (by omega)
        · exact ⟨(ky10 (by omega)).1, (ky10 (by omega)).2.1⟩
      by_cases n1 : x.name = se
      rotate_left
      · have k1 := decide_eq_false n1
        have hn : ¬ stepP t (Sim t) a b := fun h => by rcases (hst _).1 h with h | h; exact n1 h.2.1; omega
        rcases f3 with f | f | f <;> (simp (maxSteps := 2000000) (disch := omega) only [Ty.cs, f, k1, List.append_assoc, List.cons_append, List.nil_append, go_sem, eq_self, if_true, if_false, reduceCtorEq, Int.reduceToNat, Int.reducePow, Nat.reducePow, Nat.reduceMul, Int.reduceLT, Int.reduceLE, Nat.reduceAdd, Nat.reduceLeDiff, Nat.reduceBEq, Nat.reduceSub, Int.reduceSub, Int.reduceMul, Int.reduceNeg, Int.reduceAdd]; exact no0 hn _)
      by_cases n2 : y.name = se
      rotate_left
      · have k2 := decide_eq_false n2
        have hn : ¬ stepP t (Sim t) a b := fun h => by rcases (hst _).1 h with h | h; exact n2 h.2.2.1; omega
        rcases f3 with f | f | f <;> (simp (maxSteps := 2000000) (disch := omega) only [Ty.cs, f, n1, k2, List.append_assoc, List.cons_append, List.nil_append, go_sem, eq_self, if_true, if_false, reduceCtorEq, Int.reduceToNat, Int.reducePow, Nat.reducePow, Nat.reduceMul, Int.reduceLT, Int.reduceLE, Nat.reduceAdd, Nat.reduceLeDiff, Nat.reduceBEq, Nat.reduceSub, Int.reduceSub, Int.reduceMul, Int.reduceNeg, Int.reduceAdd]; exact no0 hn _)
      by_cases hl : x.len = y.len
      rotate_left
      · have k3 := decide_eq_false hl
        have hn : ¬ stepP t (Sim t) a b := fun h => by rcases (hst _).1 h with h | h; exact hl h.2.2.2.1; omega
        rcases f3 with f | f | f <;> (simp (maxSteps := 2000000) (disch := omega) only [Ty.cs, f, n1, n2, k3, List.append_assoc, List.cons_append, List.nil_append, go_sem, eq_self, if_true, if_false, reduceCtorEq, Int.reduceToNat, Int.reducePow, Nat.reducePow, Nat.reduceMul, Int.reduceLT, Int.reduceLE, Nat.reduceAdd, Nat.reduceLeDiff, Nat.reduceBEq, Nat.reduceSub, Int.reduceSub, Int.reduceMul, Int.reduceNeg, Int.reduceAdd]; exact no0 hn _)
      have hy : ∀ Q, CovP t Q x.elem y.elem → stepP t (CovP t Q) a b := fun Q h => (hst _).2 (.inl ⟨f3, n1, n2, hl, h⟩)
      have hn : ¬ Sim t x.elem y.elem → ¬ stepP t (Sim t) a b := fun h1 h => by rcases (hst _).1 h with h | h; exact h1 h.2.2.2.2; omega
      rcases f3 with f | f | f <;> (
        simp (maxSteps := 2000000) (disch := omega) only [Ty.cs, f, n1, n2, hl, List.append_assoc, List.cons_append, List.nil_append, go_sem, eq_self, if_true, if_false, reduceCtorEq, Int.reduceToNat, Int.reducePow, Nat.reducePow, Nat.reduceMul, Int.reduceLT, Int.reduceLE, Nat.reduceAdd, Nat.reduceLeDiff, Nat.reduceBEq, Nat.reduceSub, Int.reduceSub, Int.reduceMul, Int.reduceNeg, Int.reduceAdd]
        refine Cont.rel (hk P1 x.elem y.elem _ mb (Nat.le_refl _) ⟨kx, ky⟩ hnd1 hir1 (hm1 _)) ?_
        rintro v H' ⟨r, Q, rfl, rfl, hr⟩
        rw [hmS]
        cases hr with
        | yes h1 h2 =>
          simp (maxSteps := 2000000) (disch := omega) only [go_sem, eq_self, if_true, if_false, reduceCtorEq, Int.reduceToNat, Int.reducePow, Nat.reducePow, Nat.reduceMul, Int.reduceLT, Int.reduceLE, Nat.reduceAdd, Nat.reduceLeDiff, Nat.reduceBEq, Nat.reduceSub, Int.reduceSub, Int.reduceMul, Int.reduceNeg, Int.reduceAdd]
          exact yes Q h1 (hy Q h2) _
        | no h1 =>
          simp (maxSteps := 2000000) (disch := omega) only [go_sem, eq_self, if_true, if_false, reduceCtorEq, Int.reduceToNat, Int.reducePow, Nat.reducePow, Nat.reduceMul, Int.reduceLT, Int.reduceLE, Nat.reduceAdd, Nat.reduceLeDiff, Nat.reduceBEq, Nat.reduceSub, Int.reduceSub, Int.reduceMul, Int.reduceNeg, Int.reduceAdd]
          exact no Q (hn h1) _)
    have g11 : y.form = 11 := by omega
    simp (maxSteps := 2000000) (disch := omega) only [Ty.cs, f11, List.append_assoc, List.cons_append, List.nil_append, go_sem, eq_self, if_true, if_false, reduceCtorEq, Int.reduceToNat, Int.reducePow, Nat.reducePow, Nat.reduceMul, Int.reduceLT, Int.reduceLE, Nat.reduceAdd, Nat.reduceLeDiff, Nat.reduceBEq, Nat.reduceSub, Int.reduceSub, Int.reduceMul, Int.reduceNeg, Int.reduceAdd]
    refine Cont.rel (eqf_c hk (P := P1) (xs := x.params) (ys := y.params) (mb := mb) (pb := H1.length) (tb := H1.length + 1) (Nat.le_refl _) hnd1 hir1 (kx11 f11).1 (ky11 g11).1 (by omega) (by omega) (hm1 _) (by rw [List.getElem?_append_right (by omega)]; simp) (by rw [List.getElem?_append_right (by omega)]; simp)) ?_
    rintro v H' ⟨r, Q, rfl, rfl, hr⟩
    rw [hmS]
    cases hr with
    | no h1 =>
      simp (maxSteps := 2000000) (disch := omega) only [go_sem, eq_self, if_true, if_false, reduceCtorEq, Int.reduceToNat, Int.reducePow, Nat.reducePow, Nat.reduceMul, Int.reduceLT, Int.reduceLE, Nat.reduceAdd, Nat.reduceLeDiff, Nat.reduceBEq, Nat.reduceSub, Int.reduceSub, Int.reduceMul, Int.reduceNeg, Int.reduceAdd]
      refine no Q (fun h => ?_) _
      rcases (hst _).1 h with h | h
      · omega
      · obtain ⟨i, hi, hv⟩ := h1 h.2.1
        rcases hv with hv | hv
        · exact hv (h.2.2.1 i hi).1
        · exact hv (h.2.2.1 i hi).2
    | yes h1 h2 h3 =>
      obtain ⟨G1, hG1⟩ : ∃ G1, G1 = H1.set mb (mpB Q) := ⟨_, rfl⟩
      have hlG : G1.length = H1.length := by rw [hG1, hlS]
      have hmG : ∀ l, (G1 ++ l)[mb]? = some (mpB Q) := fun l => at_app (by rw [hG1, List.getElem?_set_self (by omega)]) l
      have e0 : ∀ c l, (G1 ++ (c :: l))[H1.length]? = some c := fun c l => by rw [← hlG, List.getElem?_append_right (Nat.le_refl _)]; simp
      have e1 : ∀ c d l, (G1 ++ (c :: d :: l))[H1.length + 1]? = some d := fun c d l => by rw [← hlG, List.getElem?_append_right (by omega)]; simp
      have e2 : ∀ c d e l, (G1 ++ (c :: d :: e :: l))[H1.length + 2]? = some e := fun c d e l => by rw [← hlG, List.getElem?_append_right (by omega)]; simp
      have e3 : ∀ c d e f l, (G1 ++ (c :: d :: e :: f :: l))[H1.length + 3]? = some f := fun c d e f l => by rw [← hlG, List.getElem?_append_right (by omega)]; simp
      rw [← hG1]
      simp (maxSteps := 2000000) (disch := omega) only [e0, e1, e2, e3, Ty.cs, go_sem, eq_self, if_true, if_false, reduceCtorEq, Int.reduceToNat, Int.reducePow, Nat.reducePow, Nat.reduceMul, Int.reduceLT, Int.reduceLE, Nat.reduceAdd, Nat.reduceLeDiff, Nat.reduceBEq, Nat.reduceSub, Int.reduceSub, Int.reduceMul, Int.reduceNeg, Int.reduceAdd]
      refine Cont.rel (hk Q x.result y.result _ mb (meas_le h1.mem) ⟨(kx11 f11).2, (ky11 g11).2⟩ h1.nd h1.inr (hmG _)) ?_
      rintro v H' ⟨r, S, rfl, rfl, hr⟩
      have hS : ∀ l, (G1 ++ l).set mb (mpB S) = H1.set mb (mpB S) ++ l := fun l => by
        rw [set_app (by have := hmG []; rwa [List.append_nil] at this), hG1, List.set_set]
      rw [hS]
      cases hr with
      | yes k1 k2 =>
        simp (maxSteps := 2000000) (disch := omega) only [go_sem, eq_self, if_true, if_false, reduceCtorEq, Int.reduceToNat, Int.reducePow, Nat.reducePow, Nat.reduceMul, Int.reduceLT, Int.reduceLE, Nat.reduceAdd, Nat.reduceLeDiff, Nat.reduceBEq, Nat.reduceSub, Int.reduceSub, Int.reduceMul, Int.reduceNeg, Int.reduceAdd]
        exact yes S (h1.trans k1) ((hst _).2 (.inr ⟨f11, h2, fun i hi => ⟨(h3 i hi).1, (h3 i hi).2.mono k1.mem⟩, k2⟩)) _
      | no k1 =>
        simp (maxSteps := 2000000) (disch := omega) only [go_sem, eq_self, if_true, if_false, reduceCtorEq, Int.reduceToNat, Int.reducePow, Nat.reducePow, Nat.reduceMul, Int.reduceLT, Int.reduceLE, Nat.reduceAdd, Nat.reduceLeDiff, Nat.reduceBEq, Nat.reduceSub, Int.reduceSub, Int.reduceMul, Int.reduceNeg, Int.reduceAdd]
        exact no S (fun h => by rcases (hst _).1 h with h | h; omega; exact k1 h.2.2.2) _
noncomputable instance (t : List Ty) (a b : Int) : Decidable (Sim t a b) := Classical.propDecidable _
/-- THE SAME. -/
noncomputable def simF (t : List Ty) (a b : Int) : Bool := decide (Sim t a b)
theorem tsame_c {t : List Ty} (ht : TT t) (hg : GoodP t) {a b : Int} (ha : placeP t a) (hb : placeP t b) (H : List ABlk) : ACalls Try.prog 38 [tv t, iv a, iv b] H fun v H' => v = bv (simF t a b) ∧ H' = H := by
  refine ACalls.into Try.func38 cc38 rr38 fun hcl => ?_
  simp (maxSteps := 2000000) (disch := omega) only [Try.ntmps38, c38, r38, go_sem, eq_self, if_true, if_false, reduceCtorEq, Int.reduceToNat, Int.reducePow, Nat.reducePow, Nat.reduceMul, Int.reduceLT, Int.reduceLE, Nat.reduceAdd, Nat.reduceLeDiff, Nat.reduceBEq, Nat.reduceSub, Int.reduceSub, Int.reduceMul, Int.reduceNeg, Int.reduceAdd]
  refine Cont.rel (sameK ht hg _ [] a b _ H.length (Nat.le_refl _) ⟨ha, hb⟩ List.nodup_nil (fun q hq => by cases hq) (by rw [List.getElem?_append_right (Nat.le_refl _)]; simp [mkK])) ?_
  rintro v H' ⟨r, Q, rfl, rfl, hr⟩
  rw [List.set_append_right _ _ (Nat.le_refl _)]
  simp (maxSteps := 2000000) (disch := omega) only [go_sem, eq_self, if_true, if_false, reduceCtorEq, Int.reduceToNat, Int.reducePow, Nat.reducePow, Nat.reduceMul, Int.reduceLT, Int.reduceLE, Nat.reduceAdd, Nat.reduceLeDiff, Nat.reduceBEq, Nat.reduceSub, Int.reduceSub, Int.reduceMul, Int.reduceNeg, Int.reduceAdd]
  refine Ret.drop _ H (Nat.le_refl _) hcl (.rfl _) (by simp [refs]) ⟨?_, rfl⟩
  cases hr with
  | yes h1 h2 => rw [simF, dect (h1.sim h2)]
  | no h => rw [simF, decf h]
end Go.Proofs.Ytlhpcccffmfopaa
