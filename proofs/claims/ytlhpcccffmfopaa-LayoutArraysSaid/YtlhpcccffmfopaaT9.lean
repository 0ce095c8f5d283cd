/- tables.fielded: few bases, and no field twice. -/
import Derived.Test.YtlhpcccffmfopaaP2
import Derived.Test.YtlhpcccffmfopaaT7
namespace Go.Proofs.Ytlhpcccffmfopaa
set_option linter.unusedSectionVars false
set_option linter.unusedSimpArgs false
set_option linter.unusedVariables false
set_option maxRecDepth 20000
set_option maxHeartbeats 4000000
open Go.RowKit

/-- Names that were met, each once. -/
def mkN (n : Nat) : List ByteArray → List (Value × AV × Nat)
  | [] => []
  | s :: l => (.string s, iv 1, n) :: mkN (n + 1) l
theorem mkN_app : ∀ (n : Nat) (l : List ByteArray) (s : ByteArray), mkN n (l ++ [s]) = mkN n l ++ [(.string s, iv 1, n + l.length)]
  | n, [], s => by simp [mkN]
  | n, x :: l, s => by
    simp only [List.cons_append, mkN, mkN_app (n + 1) l s, List.length_cons]
    rw [show n + 1 + l.length = n + (l.length + 1) by omega]
theorem keq_s (a b : ByteArray) : keq (.string a) (.string b) = decide (a = b) := rfl
theorem mkN_get {s : ByteArray} : ∀ {n : Nat} {l : List ByteArray}, (s ∈ l → ∃ c, mapGet (mkN n l) (.string s) = some (iv 1, c)) ∧ (s ∉ l → mapGet (mkN n l) (.string s) = none)
  | n, [] => ⟨fun h => by simp at h, fun _ => rfl⟩
  | n, x :: l => by
    simp only [mkN, mapGet, keq_s]
    by_cases h : x = s
    · subst h
      simp
    · have := mkN_get (s := s) (n := n + 1) (l := l)
      simp only [decide_eq_true_eq, h, if_false, List.mem_cons, Ne.symm h, false_or]
      exact this
theorem mapSet_get {k : Value} {v : AV} : ∀ {es : List (Value × AV × Nat)} {x : AV × Nat}, mapGet es k = some x → mapGet (mapSet es k v) k = some (v, x.2)
  | e :: r, x, h => by
    simp only [mapGet, mapSet] at h ⊢
    split at h
    · rename_i hk
      rw [if_pos hk]
      simp only [mapGet]
      rw [if_pos hk]
      cases h; rfl
    · rename_i hk
      rw [if_neg hk]
      simp only [mapGet]
      rw [if_neg hk]
      exact mapSet_get h
theorem put_new {es : List (Value × AV × Nat)} {k : Value} {v : AV} {ck : Nat} (h : mapGet es k = none) : mapPut ck es k v = (ck + 1, es ++ [(k, v, ck)]) := by simp only [mapPut, h]
theorem put_old {es : List (Value × AV × Nat)} {k : Value} {v : AV} {ck : Nat} {x : AV × Nat} (h : mapGet es k = some x) : mapPut ck es k v = (ck, mapSet es k v) := by simp only [mapPut, h]
theorem keyOf_s (s : ByteArray) : keyOf (sv s) = some (.string s) := rfl
theorem fits_s {s : ByteArray} (h : s.size ≤ 140737488355328) : keyFits ⟨false, [.s]⟩ (.string s) = true := by simp only [keyFits, kcFit, decide_eq_true_eq]; exact Nat.le_trans h (by decide)
theorem hs_1 (H : List ABlk) (a b c d : ABlk) : (H ++ [a, b, c]).set (H.length + 1) d = H ++ [a, d, c] := by rw [List.set_append_right _ _ (by omega)]; simp
abbrev ktN : KT := ⟨false, [.s]⟩
abbrev SX (H : List ABlk) (t : List Ty) (n : Int) : List AV := [tv t, .any, .any, .ptr H.length 0, bv false, .mp (H.length + 1), iv n]
abbrev hx2 (x : Ty) (l : List ByteArray) : List ABlk := [.cells x.cs, .map ktN l.length (mkN 0 l)]
theorem mkN_refs (kt : KT) (ck : Nat) : ∀ (n : Nat) (l : List ByteArray), (ABlk.map kt ck (mkN n l)).refs = []
  | n, [] => rfl
  | n, s :: l => by
    have := mkN_refs kt ck (n + 1) l
    simp [mkN, ABlk.refs, refs] at this ⊢
    exact this
theorem cl_hx2 {H : List ABlk} (h : cl H) {x : Ty} {l : List ByteArray} : cl (H ++ hx2 x l) := by
  refine h.append fun k hk r hr => ?_
  simp only [List.mem_cons, List.not_mem_nil, or_false] at hk
  rcases hk with rfl | rfl
  · simp [ABlk.refs, refs.refsL, refs, Ty.cs] at hr
  · rw [mkN_refs] at hr; simp at hr
theorem fielded_l0 {t : List Ty} {x : Ty} {H : List ABlk} (hcl : cl H) (hfl : x.fields.length ≤ 9000000) (hfn : ∀ f ∈ x.fields, f.name.size ≤ 140737488355328) (bs : Int) (l0 : List ByteArray) (hl0 : l0.Nodup) :
    W Try.prog (hh 57) H.length (.loop c57l0) (SX H t bs ++ List.replicate 8 .any ++ [fdv x.fields, iv x.fields.length, iv (0 : Nat)] ++ List.replicate 22 .any) (H ++ hx2 x l0)
      (fun e s H' => (e = .exit 2 ∧ s = SX H t bs ++ List.replicate 8 .any ++ [fdv x.fields, iv x.fields.length, iv (x.fields.length : Nat), bv false] ++ List.replicate 21 .any ∧ H' = H ++ hx2 x (l0 ++ x.fields.map Fd.name) ∧ (l0 ++ x.fields.map Fd.name).Nodup) ∨
        (e = .ret ∧ resA [RC.t 4] s H' = some (bv false) ∧ (∃ l, H' = H ++ l) ∧ ¬ (l0 ++ x.fields.map Fd.name).Nodup)) := by
  obtain ⟨S, hS⟩ : ∃ S : Nat → List AV, ∀ i, S i = SX H t bs ++ List.replicate 8 .any ++ [fdv x.fields, iv x.fields.length, iv i] ++ List.replicate 22 .any := ⟨_, fun _ => rfl⟩
  obtain ⟨L, hL⟩ : ∃ L : Nat → List ByteArray, ∀ i, L i = l0 ++ (x.fields.take i).map Fd.name := ⟨_, fun _ => rfl⟩
  have hL0 : L 0 = l0 := by rw [hL]; simp
  have hLn : ∀ i, i < x.fields.length → L (i + 1) = L i ++ [(x.fields.getD i default).name] := fun i hi => by
    rw [hL, hL, getD_take (d := default) hi]; simp
  have hLF : L x.fields.length = l0 ++ x.fields.map Fd.name := by rw [hL, List.take_length]
  have hsub : ∀ i, i ≤ x.fields.length → List.Sublist (L i) (L x.fields.length) := fun i hi => by
    rw [hL, hL, List.take_length]
    exact (List.Sublist.refl _).append ((List.take_sublist _ _).map _)
  refine W.loopG (γ := Nat) (fun i => x.fields.length - i) S (fun i => H ++ hx2 x (L i)) (fun i => i ≤ x.fields.length ∧ (L i).Nodup) 0 (by rw [hS, hL0]; exact Wk.refl) ⟨Nat.zero_le _, by rw [hL0]; exact hl0⟩ (fun i hi => ?_)
  obtain ⟨q1, q2⟩ := hi
  simp (maxSteps := 2000000) (disch := omega) only [c57l0, hS, List.append_assoc, List.cons_append, List.nil_append, go_sem, eq_self, if_true, if_false, reduceCtorEq, Int.reduceToNat, Int.reducePow, Nat.reducePow, Nat.reduceMul, Int.reduceLT, Int.reduceLE, Nat.reduceAdd, Nat.reduceLeDiff, Nat.reduceBEq, Nat.reduceSub, Int.reduceSub, Int.reduceMul, Int.reduceNeg, Int.reduceAdd]
  refine Br.dec (fun hc => ?_) (fun hc => ?_) <;> simp (maxSteps := 2000000) (disch := omega) only [go_sem, eq_self, if_true, if_false, reduceCtorEq, Int.reduceToNat, Int.reducePow, Nat.reducePow, Nat.reduceMul, Int.reduceLT, Int.reduceLE, Nat.reduceAdd, Nat.reduceLeDiff, Nat.reduceBEq, Nat.reduceSub, Int.reduceSub, Int.reduceMul, Int.reduceNeg, Int.reduceAdd]
  · have hfa := iaA_fd (t := x.fields) (a := i) (by omega) (by omega)
    have e1 : fdAt x.fields (i : Int) = x.fields.getD i default := rfl
    rw [e1] at hfa
    have hn := hLn i (by omega)
    have hsb := hsub (i + 1) (by omega)
    rw [hn] at hsb
    have hsz := fits_s (hfn (x.fields.getD i default) (by rw [List.getD_eq_getElem?_getD, List.getElem?_eq_getElem (by omega)]; exact List.getElem_mem _))
    generalize x.fields.getD i default = f at *
    by_cases hm : f.name ∈ L i
    · obtain ⟨c, hg⟩ := (mkN_get (s := f.name) (n := 0) (l := L i)).1 hm
      have hp := put_old (ck := (L i).length) (v := iv 2) hg
      have hg2 := mapSet_get (v := iv 2) hg
      simp (maxSteps := 2000000) (disch := omega) only [hfa, Fd.c, keyOf_s, hsz, mapOf, hg, hp, hg2, hb_0, hb_1, hb_2, hs_2, hs_1, hb_0', hb_1', List.append_assoc, List.cons_append, List.nil_append, go_sem, eq_self, if_true, if_false, reduceCtorEq, Int.reduceToNat, Int.reducePow, Nat.reducePow, Nat.reduceMul, Int.reduceLT, Int.reduceLE, Nat.reduceAdd, Nat.reduceLeDiff, Nat.reduceBEq, Nat.reduceSub, Int.reduceSub, Int.reduceMul, Int.reduceNeg, Int.reduceAdd]
      refine .inr ⟨⟨_, rfl⟩, fun hnd => ?_⟩
      rw [← hLF] at hnd
      have := hnd.sublist hsb
      rw [List.nodup_append] at this
      exact this.2.2 _ hm _ (List.mem_singleton.2 rfl) rfl
    · have hg := (mkN_get (s := f.name) (n := 0) (l := L i)).2 hm
      have hp := put_new (ck := (L i).length) (v := iv 1) hg
      have hap := mkN_app 0 (L i) f.name
      rw [Nat.zero_add] at hap
      have hg2 := mapGet_app (z := iv 1) (c := (L i).length) hg (show keq (.string f.name) (.string f.name) = true by simp [keq_s])
      simp (maxSteps := 2000000) (disch := omega) only [hfa, Fd.c, keyOf_s, hsz, mapOf, hg, hp, hg2, hb_0, hb_1, hb_2, hs_2, hs_1, hb_0', hb_1', List.append_assoc, List.cons_append, List.nil_append, go_sem, eq_self, if_true, if_false, reduceCtorEq, Int.reduceToNat, Int.reducePow, Nat.reducePow, Nat.reduceMul, Int.reduceLT, Int.reduceLE, Nat.reduceAdd, Nat.reduceLeDiff, Nat.reduceBEq, Nat.reduceSub, Int.reduceSub, Int.reduceMul, Int.reduceNeg, Int.reduceAdd]
      rw [show ∀ (A : List ABlk) (p q r : ABlk), A ++ [p, q, r] = (A ++ [p, q]) ++ [r] from fun A p q r => by simp, ← hap, ← hn, show (L i).length + 1 = (L (i + 1)).length by rw [hn]; simp]
      refine Nxt.mk (i + 1) (by omega) (Wk.drop (by rw [hS]; exact WkL.tail 18 _ rfl (by simp only [List.take_succ_cons, List.take_zero]; repeat' first | exact WkL.nil | refine WkL.cons (Wk1.rfl _) ?_ | refine WkL.cons Wk1.esl ?_ | refine WkL.cons (Wk1.gsl _ _ _) ?_ | refine WkL.cons (Wk1.any _) ?_)) (by simp) ?_ ?_) ⟨by omega, ?_⟩
      · exact cl_hx2 hcl
      · rw [hS]; simp [refs, refs.refsL]
      · rw [hn, List.nodup_append]
        exact ⟨q2, by simp, fun a ha b hb e => hm (by rw [List.mem_singleton] at hb; rw [← hb, ← e]; exact ha)⟩
  · have hie : i = x.fields.length := by omega
    subst hie
    rw [← hLF]
    exact .inl ⟨rfl, rfl, q2⟩

structure TBase (t : List Ty) : Prop where
  len : t.length ≤ 256
  fd : ∀ x ∈ t, x.fields.length ≤ 9000000 ∧ ∀ f ∈ x.fields, f.name.size ≤ 140737488355328
  base : ∀ a : Int, 0 ≤ a → a < t.length → (tyAt t a).form = 9 → (tyAt t a).base = 0 ∨ (0 ≤ (tyAt t a).base ∧ (tyAt t a).base < t.length ∧ (tyAt t (tyAt t a).base).form = 9)
theorem fielded_c {t : List Ty} (ht : TBase t) {a0 : Int} (h0 : 0 ≤ a0 ∧ a0 < t.length) (f9 : (tyAt t a0).form = 9) (H : List ABlk) : ACalls Try.prog 57 [tv t, (tyAt t a0).av] H fun v H' => (∃ B, v = bv B ∧ (B = true ↔ ChainP t a0)) ∧ H' = H := by
  refine ACalls.into Try.func57 cc57 rr57 fun hcl => ?_
  have htl := ht.len
  simp (maxSteps := 2000000) (disch := omega) only [Try.ntmps57, c57, r57, List.append_assoc, List.cons_append, List.nil_append, go_sem, eq_self, if_true, if_false, reduceCtorEq, Int.reduceToNat, Int.reducePow, Nat.reducePow, Nat.reduceMul, Int.reduceLT, Int.reduceLE, Nat.reduceAdd, Nat.reduceLeDiff, Nat.reduceBEq, Nat.reduceSub, Int.reduceSub, Int.reduceMul, Int.reduceNeg, Int.reduceAdd]
  obtain ⟨S, hS⟩ : ∃ S : Nat → List AV, ∀ n, S n = SX H t n ++ List.replicate 33 .any := ⟨_, fun _ => rfl⟩
  refine W.loopG (γ := Nat × Int × List Int) (fun g => 6 - g.1) (fun g => S g.1) (fun g => H ++ hx2 (tyAt t g.2.1) (namesL t g.2.2)) (fun g => g.1 ≤ 5 ∧ (0 ≤ g.2.1 ∧ g.2.1 < t.length) ∧ (tyAt t g.2.1).form = 9 ∧ chain t 5 a0 = g.2.2 ++ chain t (5 - g.1) g.2.1 ∧ g.2.2.length = g.1 ∧ (namesL t g.2.2).Nodup) (0, a0, []) (by simp only [hS]; exact Wk.slots (by (try simp only [List.replicate, List.cons_append, List.nil_append]); repeat' first | exact WkL.nil | refine WkL.cons (Wk1.rfl _) ?_ | refine WkL.cons Wk1.esl ?_ | refine WkL.cons (Wk1.gsl _ _ _) ?_ | refine WkL.cons (Wk1.any _) ?_)) ⟨by omega, h0, f9, by simp, rfl, by simp [namesL]⟩ (fun g hg => ?_)
  obtain ⟨n, a, vs⟩ := g
  obtain ⟨q1, q2, q3, q4, q5, q6⟩ := hg
  simp only at q1 q2 q3 q4 q5 q6
  have hx := ht.fd _ (tyAt_mem q2.1 q2.2)
  have hba := ht.base a q2.1 q2.2 q3
  have fin : ∀ {v : Bool}, (v = true ↔ ChainP t a0) → ∀ l, Ret [RC.t 4] H.length (fun v H' => (∃ B, v = bv B ∧ (B = true ↔ ChainP t a0)) ∧ H' = H) (some (bv v)) (H ++ l) := fun {v} e l => Ret.drop (bv v) H (Nat.le_refl _) hcl (.rfl _) (by simp [refs]) ⟨⟨v, rfl, e⟩, rfl⟩
  have hnm : namesL t (chain t 5 a0) = (namesL t vs ++ (tyAt t a).fields.map Fd.name) ++ namesL t ((chain t (5 - n) a).tail) := by
    rw [q4]
    have : ∀ k, namesL t (chain t k a) = (tyAt t a).fields.map Fd.name ++ namesL t ((chain t k a).tail) := fun k => by cases k <;> simp [chain, namesL]
    rw [namesL, List.flatMap_append, List.append_assoc]
    exact congrArg _ (this _)
  simp (maxSteps := 2000000) (disch := omega) only [c57l1, hS, List.append_assoc, List.cons_append, List.nil_append, go_sem, eq_self, if_true, if_false, reduceCtorEq, Int.reduceToNat, Int.reducePow, Nat.reducePow, Nat.reduceMul, Int.reduceLT, Int.reduceLE, Nat.reduceAdd, Nat.reduceLeDiff, Nat.reduceBEq, Nat.reduceSub, Int.reduceSub, Int.reduceMul, Int.reduceNeg, Int.reduceAdd]
  refine Br.dec (fun hc => ?_) (fun hc => ?_) <;> simp (maxSteps := 2000000) (disch := omega) only [Ty.cs, hb_0', hb_1', List.length_map, go_sem, eq_self, if_true, if_false, reduceCtorEq, Int.reduceToNat, Int.reducePow, Nat.reducePow, Nat.reduceMul, Int.reduceLT, Int.reduceLE, Nat.reduceAdd, Nat.reduceLeDiff, Nat.reduceBEq, Nat.reduceSub, Int.reduceSub, Int.reduceMul, Int.reduceNeg, Int.reduceAdd]
  · refine fin ⟨fun h => by simp at h, fun h => ?_⟩ _
    have := h.1
    rw [q4, List.length_append, show 5 - n = 0 by omega] at this
    simp [chain] at this; omega
  · refine W.weak (Wk.slots (by (try simp only [List.replicate, List.cons_append, List.nil_append]); repeat' first | exact WkL.nil | refine WkL.cons (Wk1.rfl _) ?_ | refine WkL.cons Wk1.esl ?_ | refine WkL.cons (Wk1.gsl _ _ _) ?_ | refine WkL.cons (Wk1.any _) ?_)) (W.mono (fielded_l0 (x := tyAt t a) hcl hx.1 hx.2 n (namesL t vs) q6) ?_)
    rintro e s H' (⟨rfl, rfl, rfl, h3⟩ | ⟨rfl, hr, ⟨l, rfl⟩, h3⟩)
    · by_cases hz : (tyAt t a).base = 0
      · have kz := beq_iff_eq.2 hz
        have kz' := decide_eq_true hz
        simp (maxSteps := 2000000) (disch := omega) only [Ty.cs, kz, kz', hb_0', hb_1', List.append_assoc, List.cons_append, List.nil_append, go_sem, eq_self, if_true, if_false, reduceCtorEq, Int.reduceToNat, Int.reducePow, Nat.reducePow, Nat.reduceMul, Int.reduceLT, Int.reduceLE, Nat.reduceAdd, Nat.reduceLeDiff, Nat.reduceBEq, Nat.reduceSub, Int.reduceSub, Int.reduceMul, Int.reduceNeg, Int.reduceAdd]
        refine fin ⟨fun _ => ?_, fun _ => rfl⟩ _
        have hc5 : chain t (5 - n) a = [a] := by
          rw [show 5 - n = (4 - n) + 1 by omega]; simp [chain, hz]
        refine ⟨by rw [q4, hc5, List.length_append, q5]; simp; omega, ?_⟩
        rw [hnm, hc5]
        simpa [namesL] using h3
      · have kz := beq_eq_false_iff_ne.2 hz
        have kz' := decide_eq_false hz
        obtain ⟨b1, b2, b3⟩ := hba.resolve_left hz
        have hty := iaA_ty b1 b2
        have hc5 : chain t (5 - n) a = a :: chain t (5 - (n + 1)) (tyAt t a).base := by
          rw [show 5 - n = (5 - (n + 1)) + 1 by omega]; simp [chain, hz]
        simp (maxSteps := 2000000) (disch := omega) only [Ty.cs, kz, kz', hb_0', hb_1', hty, Ty.c, List.append_assoc, List.cons_append, List.nil_append, go_sem, eq_self, if_true, if_false, reduceCtorEq, Int.reduceToNat, Int.reducePow, Nat.reducePow, Nat.reduceMul, Int.reduceLT, Int.reduceLE, Nat.reduceAdd, Nat.reduceLeDiff, Nat.reduceBEq, Nat.reduceSub, Int.reduceSub, Int.reduceMul, Int.reduceNeg, Int.reduceAdd]
        have hn1 : namesL t (vs ++ [a]) = namesL t vs ++ (tyAt t a).fields.map Fd.name := by simp [namesL]
        refine Nxt.mk (n + 1, (tyAt t a).base, vs ++ [a]) (by simp only; omega) ?_ ⟨by simp only; omega, ⟨b1, b2⟩, b3, by simp only; rw [q4, hc5]; simp, by simp [q5], by simp only; rw [hn1]; exact h3⟩
        simp only [hn1]
        rw [show (namesL t vs).length + (tyAt t a).fields.length = (namesL t vs ++ (tyAt t a).fields.map Fd.name).length by simp]
        exact Wk.slots (by (try simp only [List.replicate, List.cons_append, List.nil_append]); repeat' first | exact WkL.nil | refine WkL.cons (Wk1.rfl _) ?_ | refine WkL.cons Wk1.esl ?_ | refine WkL.cons (Wk1.gsl _ _ _) ?_ | refine WkL.cons (Wk1.any _) ?_)
    · refine (?_ : Ret _ _ _ (resA [RC.t 4] s (H ++ l)) (H ++ l))
      rw [hr]
      refine fin ⟨fun h => by simp at h, fun h => absurd ?_ h3⟩ _
      have := h.2
      rw [hnm] at this
      exact (List.nodup_append.1 this).1
end Go.Proofs.Ytlhpcccffmfopaa
