/- The reference: a record's bases and fields. -/
import Derived.Test.YtlhpcccffmfopaaP3
namespace Go.Proofs.Ytlhpcccffmfopaa
set_option linter.unusedSectionVars false
set_option linter.unusedSimpArgs false
set_option linter.unusedVariables false
set_option maxRecDepth 20000
set_option maxHeartbeats 4000000
open Go.RowKit

/-- The bases behind a record, at most so many. -/
def basR (t : List Ty) : Nat → Int → Option (List Int)
  | 0, a => if (tyAt t a).base = 0 then some [] else none
  | n + 1, a => if (tyAt t a).base = 0 then some [] else
      if placeP t (tyAt t a).base ∧ (tyAt t (tyAt t a).base).form = 9 then (basR t n (tyAt t a).base).map ((tyAt t a).base :: ·) else none
theorem bas_zero {t : List Ty} {n : Nat} {a : Int} (h : (tyAt t a).base = 0) : basR t n a = some [] := by cases n <;> simp [basR, h]
theorem bas_place {t : List Ty} : ∀ {n : Nat} {a : Int} {l : List Int}, basR t n a = some l → ∀ b ∈ l, placeP t b
  | 0, a, l, h => by
    simp only [basR] at h
    split at h
    · cases h; simp
    · cases h
  | n + 1, a, l, h => by
    simp only [basR] at h
    split at h
    · cases h; simp
    · split at h
      · rename_i hp
        obtain ⟨r, hr, rfl⟩ := Option.map_eq_some_iff.1 h
        intro b hb
        rcases List.mem_cons.1 hb with rfl | hb
        · exact hp.1
        · exact bas_place hr b hb
      · cases h
def BasesR (t : List Ty) (a : Int) (H : List ABlk) (v : AV) (H' : List ABlk) : Prop :=
  (∃ l, basR t 5 a = some l ∧ v = .tup [.gsl H.length 1 ((a :: l).map kd), bv true] ∧ H' = H ++ [.row 3 1 (l.length + 1)]) ∨ (basR t 5 a = none ∧ v = .tup [.esl, bv false] ∧ H' = H)
theorem bases_c {t : List Ty} (ht : t.length ≤ 9000000) {a : Int} (ha : placeP t a) (H : List ABlk) : ACalls Try.prog 73 [tv t, iv a] H (BasesR t a H) := by
  refine ACalls.into Try.func73 cc73 rr73 fun hcl => ?_
  simp (maxSteps := 2000000) (disch := omega) only [Try.ntmps73, c73, r73, List.append_assoc, List.cons_append, List.nil_append, go_sem, eq_self, if_true, if_false, reduceCtorEq, Int.reduceToNat, Int.reducePow, Nat.reducePow, Nat.reduceMul, Int.reduceLT, Int.reduceLE, Nat.reduceAdd, Nat.reduceLeDiff, Nat.reduceBEq, Nat.reduceSub, Int.reduceSub, Int.reduceMul, Int.reduceNeg, Int.reduceAdd]
  obtain ⟨S, hS⟩ : ∃ S : Int × List Int → List AV, ∀ g, S g = [tv t, iv g.1, .any, .any, .esl, bv false, .gsl H.length 1 ((a :: g.2).map kd)] ++ List.replicate 35 .any := ⟨_, fun _ => rfl⟩
  have hr0 : ∀ (r : ABlk), (H ++ [r])[H.length]? = some r := fun r => by rw [List.getElem?_append_right (Nat.le_refl _)]; simp
  have hs0 : ∀ (r y : ABlk), (H ++ [r]).set H.length y = H ++ [y] := fun r y => by rw [List.set_append_right _ _ (Nat.le_refl _)]; simp
  refine W.loopG (γ := Int × List Int) (fun g => 5 - g.2.length) S (fun g => H ++ [.row 3 1 (g.2.length + 1)]) (fun g => g.2.length ≤ 5 ∧ placeP t g.1 ∧ basR t 5 a = (basR t (5 - g.2.length) g.1).map (g.2 ++ ·)) (a, []) (by rw [hS]; exact Wk.slots (by (try simp only [List.replicate, List.cons_append, List.nil_append]); repeat' first | exact WkL.nil | refine WkL.cons (Wk1.rfl _) ?_ | refine WkL.cons Wk1.esl ?_ | refine WkL.cons (Wk1.gsl _ _ _) ?_ | refine WkL.cons (Wk1.any _) ?_)) ⟨by simp, ha, by simp⟩ (fun g hg => ?_)
  obtain ⟨c, ws⟩ := g
  obtain ⟨q1, q2, q3⟩ := hg
  simp only at q1 q2 q3
  have hty := iaA_ty q2.1 q2.2
  simp (maxSteps := 2000000) (disch := omega) only [c73l0, hS, hty, Ty.c, List.append_assoc, List.cons_append, List.nil_append, go_sem, eq_self, if_true, if_false, reduceCtorEq, Int.reduceToNat, Int.reducePow, Nat.reducePow, Nat.reduceMul, Int.reduceLT, Int.reduceLE, Nat.reduceAdd, Nat.reduceLeDiff, Nat.reduceBEq, Nat.reduceSub, Int.reduceSub, Int.reduceMul, Int.reduceNeg, Int.reduceAdd]
  have fail : basR t (5 - ws.length) c = none → ∀ l, Ret r73 H.length (BasesR t a H) (some (.tup [.esl, bv false])) (H ++ l) := fun h l => Ret.drop _ H (Nat.le_refl _) hcl (.rfl _) (by simp [refs, refs.refsL]) (.inr ⟨by rw [q3, h]; rfl, rfl, rfl⟩)
  by_cases hz : (tyAt t c).base = 0
  · have kz := decide_eq_true hz
    simp (maxSteps := 2000000) (disch := omega) only [hz, kz, go_sem, eq_self, if_true, if_false, reduceCtorEq, Int.reduceToNat, Int.reducePow, Nat.reducePow, Nat.reduceMul, Int.reduceLT, Int.reduceLE, Nat.reduceAdd, Nat.reduceLeDiff, Nat.reduceBEq, Nat.reduceSub, Int.reduceSub, Int.reduceMul, Int.reduceNeg, Int.reduceAdd]
    refine Ret.keep (.inl ⟨ws, by rw [q3, bas_zero hz]; simp, rfl, rfl⟩)
  · have kz := decide_eq_false hz
    simp (maxSteps := 2000000) (disch := omega) only [kz, hty, Ty.c, go_sem, eq_self, if_true, if_false, reduceCtorEq, Int.reduceToNat, Int.reducePow, Nat.reducePow, Nat.reduceMul, Int.reduceLT, Int.reduceLE, Nat.reduceAdd, Nat.reduceLeDiff, Nat.reduceBEq, Nat.reduceSub, Int.reduceSub, Int.reduceMul, Int.reduceNeg, Int.reduceAdd]
    refine Cont.mk (place_c _ ht _) ?_
    have hbn : ¬ (placeP t (tyAt t c).base ∧ (tyAt t (tyAt t c).base).form = 9) → basR t (5 - ws.length) c = none := fun h => by
      cases 5 - ws.length <;> simp [basR, hz, h]
    by_cases hp : placeP t (tyAt t c).base
    rotate_left
    · have kp := decide_eq_false hp
      simp (maxSteps := 2000000) (disch := omega) only [kp, go_sem, eq_self, if_true, if_false, reduceCtorEq, Int.reduceToNat, Int.reducePow, Nat.reducePow, Nat.reduceMul, Int.reduceLT, Int.reduceLE, Nat.reduceAdd, Nat.reduceLeDiff, Nat.reduceBEq, Nat.reduceSub, Int.reduceSub, Int.reduceMul, Int.reduceNeg, Int.reduceAdd]
      exact fail (hbn fun h => hp h.1) _
    have kp := decide_eq_true hp
    have hty2 := iaA_ty hp.1 hp.2
    by_cases hf : (tyAt t (tyAt t c).base).form = 9
    rotate_left
    · have kf := decide_eq_false hf
      simp (maxSteps := 2000000) (disch := omega) only [kp, kf, hty2, Ty.c, go_sem, eq_self, if_true, if_false, reduceCtorEq, Int.reduceToNat, Int.reducePow, Nat.reducePow, Nat.reduceMul, Int.reduceLT, Int.reduceLE, Nat.reduceAdd, Nat.reduceLeDiff, Nat.reduceBEq, Nat.reduceSub, Int.reduceSub, Int.reduceMul, Int.reduceNeg, Int.reduceAdd]
      exact fail (hbn fun h => hf h.2) _
    have kf := decide_eq_true hf
    simp (maxSteps := 2000000) (disch := omega) only [kp, hf, hty2, Ty.c, List.length_map, List.length_cons, go_sem, eq_self, if_true, if_false, reduceCtorEq, Int.reduceToNat, Int.reducePow, Nat.reducePow, Nat.reduceMul, Int.reduceLT, Int.reduceLE, Nat.reduceAdd, Nat.reduceLeDiff, Nat.reduceBEq, Nat.reduceSub, Int.reduceSub, Int.reduceMul, Int.reduceNeg, Int.reduceAdd]
    refine Br.dec (fun hl => ?_) (fun hl => ?_) <;> simp (maxSteps := 2000000) (disch := omega) only [go_sem, eq_self, if_true, if_false, reduceCtorEq, Int.reduceToNat, Int.reducePow, Nat.reducePow, Nat.reduceMul, Int.reduceLT, Int.reduceLE, Nat.reduceAdd, Nat.reduceLeDiff, Nat.reduceBEq, Nat.reduceSub, Int.reduceSub, Int.reduceMul, Int.reduceNeg, Int.reduceAdd]
    · exact fail (by rw [show 5 - ws.length = 0 by omega]; simp [basR, hz]) _
    · have e : (a :: (ws ++ [(tyAt t c).base])).map kd = kd a :: (ws.map kd ++ [[Dat.v (.int .i64 (tyAt t c).base)]]) := by simp
      have e2 : ws.length + 1 + 1 = (ws ++ [(tyAt t c).base]).length + 1 := by simp
      have e3 : basR t (5 - ws.length) c = (basR t (5 - (ws ++ [(tyAt t c).base]).length) (tyAt t c).base).map ((tyAt t c).base :: ·) := by
        rw [show 5 - ws.length = (5 - (ws ++ [(tyAt t c).base]).length) + 1 by simp; omega]
        simp only [basR]
        rw [if_neg hz, if_pos ⟨hp, hf⟩]
      rw [e2]
      refine Nxt.mk ((tyAt t c).base, ws ++ [(tyAt t c).base]) (by simp; omega) (Wk.slots ?_) ⟨by simp; omega, hp, ?_⟩
      · rw [hS]
        simp only
        rw [e]
        exact WkL.tail 7 _ rfl (by simp only [List.take_succ_cons, List.take_zero]; repeat' first | exact WkL.nil | refine WkL.cons (Wk1.rfl _) ?_ | refine WkL.cons Wk1.esl ?_ | refine WkL.cons (Wk1.gsl _ _ _) ?_ | refine WkL.cons (Wk1.any _) ?_)
      · simp only
        rw [q3, e3, Option.map_map]
        congr 1
        funext l
        simp
abbrev SQ (t : List Ty) (H : List ABlk) (a : Int) (l : List Int) (i : Nat) : List AV := [tv t, .any, .any, .any, bv false, .gsl H.length 1 (l.map kd), .any, .mp (H.length + 1), iv i]
abbrev hq2 (n : Nat) (L : List ByteArray) : List ABlk := [.row 3 1 n, .map ktN L.length (mkN 0 L)]
theorem cl_hq2 {H : List ABlk} (h : cl H) {n : Nat} {l : List ByteArray} : cl (H ++ hq2 n l) := by
  refine h.append fun k hk r hr => ?_
  simp only [List.mem_cons, List.not_mem_nil, or_false] at hk
  rcases hk with rfl | rfl
  · simp [ABlk.refs] at hr
  · rw [mkN_refs] at hr; simp at hr
theorem record_l0 {t : List Ty} (ht : t.length ≤ 9000000) {x : Ty} {H : List ABlk} (hfl : x.fields.length ≤ 9000000) (hfn : ∀ f ∈ x.fields, f.name.size ≤ 140737488355328) (a : Int) (l : List Int) (i0 n : Nat) (l0 : List ByteArray) (hl0 : l0.Nodup) :
    W Try.prog (hh 61) H.length (.loop c61l0) (SQ t H a l i0 ++ [fdv x.fields, iv (0 : Nat)] ++ List.replicate 79 .any) (H ++ hq2 n l0)
      (fun e s H' => (e = .exit 2 ∧ (∃ y0 y1 y2 y3 y4, s = SQ t H a l i0 ++ [fdv x.fields, y0] ++ List.replicate 40 .any ++ [y1, y2, y3, y4] ++ List.replicate 35 .any) ∧ H' = H ++ hq2 n (l0 ++ x.fields.map Fd.name) ∧ (l0 ++ x.fields.map Fd.name).Nodup ∧ ∀ f ∈ x.fields, Nm f.name ∧ holdsP t f.typ) ∨
        (e = .ret ∧ resA [RC.t 4] s H' = some (bv false) ∧ (∃ l, H' = H ++ l) ∧ ¬ ((l0 ++ x.fields.map Fd.name).Nodup ∧ ∀ f ∈ x.fields, Nm f.name ∧ holdsP t f.typ))) := by
  obtain ⟨S, hS⟩ : ∃ S : Nat → List AV, ∀ i, S i = SQ t H a l i0 ++ [fdv x.fields, iv i] ++ List.replicate 79 .any := ⟨_, fun _ => rfl⟩
  obtain ⟨L, hL⟩ : ∃ L : Nat → List ByteArray, ∀ i, L i = l0 ++ (x.fields.take i).map Fd.name := ⟨_, fun _ => rfl⟩
  have hL0 : L 0 = l0 := by rw [hL]; simp
  have hLn : ∀ i, i < x.fields.length → L (i + 1) = L i ++ [(x.fields.getD i default).name] := fun i hi => by
    rw [hL, hL, getD_take (d := default) hi]; simp
  have hLF : L x.fields.length = l0 ++ x.fields.map Fd.name := by rw [hL, List.take_length]
  have hsub : ∀ i, i ≤ x.fields.length → List.Sublist (L i) (L x.fields.length) := fun i hi => by
    rw [hL, hL, List.take_length]
    exact (List.Sublist.refl _).append ((List.take_sublist _ _).map _)
  refine W.loopG (γ := Nat) (fun i => x.fields.length - i) S (fun i => H ++ hq2 n (L i)) (fun i => i ≤ x.fields.length ∧ (L i).Nodup ∧ ∀ j, j < i → Nm (x.fields.getD j default).name ∧ holdsP t (x.fields.getD j default).typ) 0 (by rw [hS, hL0]; exact Wk.refl) ⟨Nat.zero_le _, by rw [hL0]; exact hl0, fun j hj => by omega⟩ (fun i hi => ?_)
  obtain ⟨q1, q2, q4⟩ := hi
  simp (maxSteps := 2000000) (disch := omega) only [c61l0, hS, List.length_map, List.append_assoc, List.cons_append, List.nil_append, go_sem, eq_self, if_true, if_false, reduceCtorEq, Int.reduceToNat, Int.reducePow, Nat.reducePow, Nat.reduceMul, Int.reduceLT, Int.reduceLE, Nat.reduceAdd, Nat.reduceLeDiff, Nat.reduceBEq, Nat.reduceSub, Int.reduceSub, Int.reduceMul, Int.reduceNeg, Int.reduceAdd]
  refine Br.dec (fun hc => ?_) (fun hc => ?_) <;> simp (maxSteps := 2000000) (disch := omega) only [go_sem, eq_self, if_true, if_false, reduceCtorEq, Int.reduceToNat, Int.reducePow, Nat.reducePow, Nat.reduceMul, Int.reduceLT, Int.reduceLE, Nat.reduceAdd, Nat.reduceLeDiff, Nat.reduceBEq, Nat.reduceSub, Int.reduceSub, Int.reduceMul, Int.reduceNeg, Int.reduceAdd]
  · have hfa := iaA_fd (t := x.fields) (a := i) (by omega) (by omega)
    have e1 : fdAt x.fields (i : Int) = x.fields.getD i default := rfl
    rw [e1] at hfa
    have hn := hLn i (by omega)
    have hsb := hsub (i + 1) (by omega)
    rw [hn] at hsb
    have hmf : x.fields.getD i default ∈ x.fields := by rw [List.getD_eq_getElem?_getD, List.getElem?_eq_getElem (by omega)]; exact List.getElem_mem _
    have hsz := fits_s (hfn _ hmf)
    have nx : Nm (x.fields.getD i default).name → holdsP t (x.fields.getD i default).typ → ∀ j, j < i + 1 → Nm (x.fields.getD j default).name ∧ holdsP t (x.fields.getD j default).typ := fun h1 h2 j hj => by
      rcases Nat.lt_or_ge j i with h' | h'
      · exact q4 j h'
      · rw [show j = i by omega]; exact ⟨h1, h2⟩
    generalize x.fields.getD i default = f at *
    by_cases hm : f.name ∈ L i
    · obtain ⟨c, hg⟩ := (mkN_get (s := f.name) (n := 0) (l := L i)).1 hm
      simp (maxSteps := 2000000) (disch := omega) only [hfa, Fd.c, keyOf_s, hsz, mapOf, hg, hb_0', hb_1', List.append_assoc, List.cons_append, List.nil_append, go_sem, eq_self, if_true, if_false, reduceCtorEq, Int.reduceToNat, Int.reducePow, Nat.reducePow, Nat.reduceMul, Int.reduceLT, Int.reduceLE, Nat.reduceAdd, Nat.reduceLeDiff, Nat.reduceBEq, Nat.reduceSub, Int.reduceSub, Int.reduceMul, Int.reduceNeg, Int.reduceAdd]
      refine .inr ⟨⟨_, rfl⟩, fun hnd => ?_⟩
      rw [← hLF] at hnd
      have := hnd.1.sublist hsb
      rw [List.nodup_append] at this
      exact this.2.2 _ hm _ (List.mem_singleton.2 rfl) rfl
    · have hg := (mkN_get (s := f.name) (n := 0) (l := L i)).2 hm
      have hp := put_new (ck := (L i).length) (v := iv 1) hg
      have hap := mkN_app 0 (L i) f.name
      rw [Nat.zero_add] at hap
      simp (maxSteps := 2000000) (disch := omega) only [hfa, Fd.c, keyOf_s, hsz, mapOf, hg, hb_0', hb_1', List.append_assoc, List.cons_append, List.nil_append, go_sem, eq_self, if_true, if_false, reduceCtorEq, Int.reduceToNat, Int.reducePow, Nat.reducePow, Nat.reduceMul, Int.reduceLT, Int.reduceLE, Nat.reduceAdd, Nat.reduceLeDiff, Nat.reduceBEq, Nat.reduceSub, Int.reduceSub, Int.reduceMul, Int.reduceNeg, Int.reduceAdd]
      refine Cont.mk (word13_c _ _) ?_
      cases hw : nmF f.name with
      | false =>
        simp (maxSteps := 2000000) (disch := omega) only [go_sem, eq_self, if_true, if_false, reduceCtorEq, Int.reduceToNat, Int.reducePow, Nat.reducePow, Nat.reduceMul, Int.reduceLT, Int.reduceLE, Nat.reduceAdd, Nat.reduceLeDiff, Nat.reduceBEq, Nat.reduceSub, Int.reduceSub, Int.reduceMul, Int.reduceNeg, Int.reduceAdd]
        exact .inr ⟨⟨_, rfl⟩, fun hnd => by rw [nm_t (hnd.2 f hmf).1] at hw; cases hw⟩
      | true =>
        simp (maxSteps := 2000000) (disch := omega) only [hfa, Fd.c, go_sem, eq_self, if_true, if_false, reduceCtorEq, Int.reduceToNat, Int.reducePow, Nat.reducePow, Nat.reduceMul, Int.reduceLT, Int.reduceLE, Nat.reduceAdd, Nat.reduceLeDiff, Nat.reduceBEq, Nat.reduceSub, Int.reduceSub, Int.reduceMul, Int.reduceNeg, Int.reduceAdd]
        refine Cont.mk (holds_c _ ht _) ?_
        by_cases hh : holdsP t f.typ
        · have kh := decide_eq_true hh
          simp (maxSteps := 2000000) (disch := omega) only [kh, hfa, Fd.c, keyOf_s, hsz, mapOf, hg, hp, hb_0', hb_1', List.append_assoc, List.cons_append, List.nil_append, go_sem, eq_self, if_true, if_false, reduceCtorEq, Int.reduceToNat, Int.reducePow, Nat.reducePow, Nat.reduceMul, Int.reduceLT, Int.reduceLE, Nat.reduceAdd, Nat.reduceLeDiff, Nat.reduceBEq, Nat.reduceSub, Int.reduceSub, Int.reduceMul, Int.reduceNeg, Int.reduceAdd]
          rw [← hap, ← hn, show (L i).length + 1 = (L (i + 1)).length by rw [hn]; simp]
          refine Nxt.mk (i + 1) (by omega) (Wk.slots (by rw [hS]; exact WkL.tail 11 _ rfl (by simp only [List.take_succ_cons, List.take_zero]; repeat' first | exact WkL.nil | refine WkL.cons (Wk1.rfl _) ?_ | refine WkL.cons Wk1.esl ?_ | refine WkL.cons (Wk1.gsl _ _ _) ?_ | refine WkL.cons (Wk1.any _) ?_))) ⟨by omega, ?_, nx (of_decide_eq_true hw) hh⟩
          rw [hn, List.nodup_append]
          exact ⟨q2, by simp, fun a ha b hb e => hm (by rw [List.mem_singleton] at hb; rw [← hb, ← e]; exact ha)⟩
        · have kh := decide_eq_false hh
          simp (maxSteps := 2000000) (disch := omega) only [kh, go_sem, eq_self, if_true, if_false, reduceCtorEq, Int.reduceToNat, Int.reducePow, Nat.reducePow, Nat.reduceMul, Int.reduceLT, Int.reduceLE, Nat.reduceAdd, Nat.reduceLeDiff, Nat.reduceBEq, Nat.reduceSub, Int.reduceSub, Int.reduceMul, Int.reduceNeg, Int.reduceAdd]
          exact .inr ⟨⟨_, rfl⟩, fun hnd => hh (hnd.2 f hmf).2⟩
  · have hie : i = x.fields.length := by omega
    subst hie
    rw [← hLF]
    refine .inl ⟨⟨_, _, _, _, _, rfl⟩, rfl, q2, fun f hf => ?_⟩
    obtain ⟨j, hj, rfl⟩ := List.getElem_of_mem hf
    have := q4 j hj
    rwa [List.getD_eq_getElem?_getD, List.getElem?_eq_getElem hj] at this

/-- What the reference asks of a record. -/
def RecP (t : List Ty) (a : Int) : Prop := ∃ l, basR t 5 a = some l ∧ l.length + 1 ≤ 5 ∧ (∀ b ∈ a :: l, (tyAt t b).fields.length ≤ 64 ∧ ∀ f ∈ (tyAt t b).fields, Nm f.name ∧ holdsP t f.typ) ∧ (namesL t (a :: l)).Nodup
theorem record_c {t : List Ty} (hs : Small t) (hn : FNames t) {a : Int} (ha : placeP t a) (H : List ABlk) : ACalls Try.prog 61 [tv t, iv a] H fun v H' => (∃ B, v = bv B ∧ (B = true ↔ RecP t a)) ∧ H' = H := by
  refine ACalls.into Try.func61 cc61 rr61 fun hcl => ?_
  have htl := hs.1
  have fin : ∀ {v : Bool}, (v = true ↔ RecP t a) → ∀ l, Ret r61 H.length (fun v H' => (∃ B, v = bv B ∧ (B = true ↔ RecP t a)) ∧ H' = H) (some (bv v)) (H ++ l) := fun {v} e l => Ret.drop (bv v) H (Nat.le_refl _) hcl (.rfl _) (by simp [refs]) ⟨⟨v, rfl, e⟩, rfl⟩
  have fin0 : ∀ {v : Bool}, (v = true ↔ RecP t a) → Ret r61 H.length (fun v H' => (∃ B, v = bv B ∧ (B = true ↔ RecP t a)) ∧ H' = H) (some (bv v)) H := fun {v} e => Ret.keep ⟨⟨v, rfl, e⟩, rfl⟩
  have no : ¬ RecP t a → (false = true ↔ RecP t a) := fun h => ⟨fun h => by simp at h, fun k => absurd k h⟩
  simp (maxSteps := 2000000) (disch := omega) only [Try.ntmps61, c61, r61, List.append_assoc, List.cons_append, List.nil_append, go_sem, eq_self, if_true, if_false, reduceCtorEq, Int.reduceToNat, Int.reducePow, Nat.reducePow, Nat.reduceMul, Int.reduceLT, Int.reduceLE, Nat.reduceAdd, Nat.reduceLeDiff, Nat.reduceBEq, Nat.reduceSub, Int.reduceSub, Int.reduceMul, Int.reduceNeg, Int.reduceAdd]
  refine Cont.rel (bases_c (by omega) ha H) ?_
  rintro v H' (⟨l, hl, rfl, rfl⟩ | ⟨hl, rfl, rfl⟩)
  rotate_left
  · simp (maxSteps := 2000000) (disch := omega) only [go_sem, eq_self, if_true, if_false, reduceCtorEq, Int.reduceToNat, Int.reducePow, Nat.reducePow, Nat.reduceMul, Int.reduceLT, Int.reduceLE, Nat.reduceAdd, Nat.reduceLeDiff, Nat.reduceBEq, Nat.reduceSub, Int.reduceSub, Int.reduceMul, Int.reduceNeg, Int.reduceAdd]
    exact fin0 (no fun ⟨l, h, _⟩ => by rw [hl] at h; cases h)
  have hpl := bas_place hl
  have hty := iaA_ty ha.1 ha.2
  have hall : ∀ b ∈ a :: l, placeP t b := fun b hb => (List.mem_cons.1 hb).elim (fun e => e ▸ ha) (hpl b)
  have hfa := (hs.2 _ (tyAt_mem ha.1 ha.2)).1
  by_cases h5 : l.length + 1 ≤ 5
  rotate_left
  · simp (maxSteps := 2000000) (disch := omega) only [List.length_map, List.length_cons, go_sem, eq_self, if_true, if_false, reduceCtorEq, Int.reduceToNat, Int.reducePow, Nat.reducePow, Nat.reduceMul, Int.reduceLT, Int.reduceLE, Nat.reduceAdd, Nat.reduceLeDiff, Nat.reduceBEq, Nat.reduceSub, Int.reduceSub, Int.reduceMul, Int.reduceNeg, Int.reduceAdd]
    exact fin (no fun ⟨l', h, h2, _⟩ => by rw [hl] at h; cases h; exact h5 h2) _
  by_cases h64 : (tyAt t a).fields.length ≤ 64
  rotate_left
  · simp (maxSteps := 2000000) (disch := omega) only [List.length_map, List.length_cons, hty, Ty.c, go_sem, eq_self, if_true, if_false, reduceCtorEq, Int.reduceToNat, Int.reducePow, Nat.reducePow, Nat.reduceMul, Int.reduceLT, Int.reduceLE, Nat.reduceAdd, Nat.reduceLeDiff, Nat.reduceBEq, Nat.reduceSub, Int.reduceSub, Int.reduceMul, Int.reduceNeg, Int.reduceAdd]
    exact fin (no fun ⟨l', h, h2, h3, _⟩ => h64 (h3 a List.mem_cons_self).1) _
  obtain ⟨vs, hvs⟩ : ∃ vs, vs = a :: l := ⟨_, rfl⟩
  have hvl : vs.length = l.length + 1 := by rw [hvs]; rfl
  rw [← hvs] at hall ⊢
  rw [← hvl] at h5 ⊢
  simp (maxSteps := 2000000) (disch := omega) only [List.length_map, hty, Ty.c, hb_0', hb_1', List.append_assoc, List.cons_append, List.nil_append, go_sem, eq_self, if_true, if_false, reduceCtorEq, Int.reduceToNat, Int.reducePow, Nat.reducePow, Nat.reduceMul, Int.reduceLT, Int.reduceLE, Nat.reduceAdd, Nat.reduceLeDiff, Nat.reduceBEq, Nat.reduceSub, Int.reduceSub, Int.reduceMul, Int.reduceNeg, Int.reduceAdd]
  obtain ⟨S, hS⟩ : ∃ S : Nat → List AV, ∀ i, S i = SQ t H a vs i ++ List.replicate 81 .any := ⟨_, fun _ => rfl⟩
  have hrec : RecP t a ↔ (∀ b ∈ vs, (tyAt t b).fields.length ≤ 64 ∧ ∀ f ∈ (tyAt t b).fields, Nm f.name ∧ holdsP t f.typ) ∧ (namesL t vs).Nodup := by
    rw [hvs]
    exact ⟨fun ⟨l', h, h2, h3⟩ => by rw [hl] at h; cases h; exact h3, fun h => ⟨l, hl, by omega, h⟩⟩
  refine W.loopG (γ := Nat) (fun i => vs.length - i) S (fun i => H ++ hq2 vs.length (namesL t (vs.take i))) (fun i => i ≤ vs.length ∧ (namesL t (vs.take i)).Nodup ∧ ∀ j, j < i → (tyAt t (vs.getD j 0)).fields.length ≤ 64 ∧ ∀ f ∈ (tyAt t (vs.getD j 0)).fields, Nm f.name ∧ holdsP t f.typ) 0 (by rw [hS]; exact Wk.slots (by (try simp only [List.replicate, List.cons_append, List.nil_append]); repeat' first | exact WkL.nil | refine WkL.cons (Wk1.rfl _) ?_ | refine WkL.cons Wk1.esl ?_ | refine WkL.cons (Wk1.gsl _ _ _) ?_ | refine WkL.cons (Wk1.any _) ?_)) ⟨Nat.zero_le _, by simp [namesL], fun j hj => by omega⟩ (fun i hi => ?_)
  obtain ⟨q1, q2, q3⟩ := hi
  simp (maxSteps := 2000000) (disch := omega) only [c61l1, hS, List.length_map, List.append_assoc, List.cons_append, List.nil_append, go_sem, eq_self, if_true, if_false, reduceCtorEq, Int.reduceToNat, Int.reducePow, Nat.reducePow, Nat.reduceMul, Int.reduceLT, Int.reduceLE, Nat.reduceAdd, Nat.reduceLeDiff, Nat.reduceBEq, Nat.reduceSub, Int.reduceSub, Int.reduceMul, Int.reduceNeg, Int.reduceAdd]
  refine Br.dec (fun hc => ?_) (fun hc => ?_) <;> simp (maxSteps := 2000000) (disch := omega) only [go_sem, eq_self, if_true, if_false, reduceCtorEq, Int.reduceToNat, Int.reducePow, Nat.reducePow, Nat.reduceMul, Int.reduceLT, Int.reduceLE, Nat.reduceAdd, Nat.reduceLeDiff, Nat.reduceBEq, Nat.reduceSub, Int.reduceSub, Int.reduceMul, Int.reduceNeg, Int.reduceAdd]
  · have hxi := gsl_at (b := H.length) (ks := vs) (i := i) (by omega)
    have hmem : vs.getD i 0 ∈ vs := by rw [List.getD_eq_getElem?_getD, List.getElem?_eq_getElem (by omega)]; exact List.getElem_mem _
    have hpi := hall _ hmem
    have hti := iaA_ty hpi.1 hpi.2
    have htk : namesL t (vs.take (i + 1)) = namesL t (vs.take i) ++ (tyAt t (vs.getD i 0)).fields.map Fd.name := by
      rw [getD_take (d := (0 : Int)) (by omega)]; simp [namesL]
    have hsubl : List.Sublist (namesL t (vs.take (i + 1))) (namesL t vs) := by
      conv => rhs; rw [← List.take_append_drop (i + 1) vs]
      rw [namesL, namesL, List.flatMap_append]
      exact List.sublist_append_left _ _
    have hxm := tyAt_mem hpi.1 hpi.2
    have hfi := (hs.2 _ hxm).1
    have nx : ((tyAt t (vs.getD i 0)).fields.length ≤ 64 ∧ ∀ f ∈ (tyAt t (vs.getD i 0)).fields, Nm f.name ∧ holdsP t f.typ) → ∀ j, j < i + 1 → (tyAt t (vs.getD j 0)).fields.length ≤ 64 ∧ ∀ f ∈ (tyAt t (vs.getD j 0)).fields, Nm f.name ∧ holdsP t f.typ := fun h j hj => by
      rcases Nat.lt_or_ge j i with h' | h'
      · exact q3 j h'
      · rw [show j = i by omega]; exact h
    simp (maxSteps := 2000000) (disch := omega) only [hxi, hti, Ty.c, List.length_map, go_sem, eq_self, if_true, if_false, reduceCtorEq, Int.reduceToNat, Int.reducePow, Nat.reducePow, Nat.reduceMul, Int.reduceLT, Int.reduceLE, Nat.reduceAdd, Nat.reduceLeDiff, Nat.reduceBEq, Nat.reduceSub, Int.reduceSub, Int.reduceMul, Int.reduceNeg, Int.reduceAdd]
    refine Br.dec (fun h6 => ?_) (fun h6 => ?_) <;> simp (maxSteps := 2000000) (disch := omega) only [go_sem, eq_self, if_true, if_false, reduceCtorEq, Int.reduceToNat, Int.reducePow, Nat.reducePow, Nat.reduceMul, Int.reduceLT, Int.reduceLE, Nat.reduceAdd, Nat.reduceLeDiff, Nat.reduceBEq, Nat.reduceSub, Int.reduceSub, Int.reduceMul, Int.reduceNeg, Int.reduceAdd]
    · exact fin (no fun h => by have := ((hrec.1 h).1 _ hmem).1; omega) _
    · refine W.weak (Wk.slots (by (try simp only [List.replicate, List.cons_append, List.nil_append]); repeat' first | exact WkL.nil | refine WkL.cons (Wk1.rfl _) ?_ | refine WkL.cons Wk1.esl ?_ | refine WkL.cons (Wk1.gsl _ _ _) ?_ | refine WkL.cons (Wk1.any _) ?_)) (W.mono (record_l0 (x := tyAt t (vs.getD i 0)) (by omega) (by omega) (hn _ hxm) a vs i vs.length (namesL t (vs.take i)) q2) ?_)
      rintro e s H' (⟨rfl, ⟨y0, y1, y2, y3, y4, rfl⟩, rfl, h3, h4⟩ | ⟨rfl, hr, ⟨l, rfl⟩, h3⟩)
      · simp (maxSteps := 2000000) (disch := omega) only [List.append_assoc, List.cons_append, List.nil_append, go_sem, eq_self, if_true, if_false, reduceCtorEq, Int.reduceToNat, Int.reducePow, Nat.reducePow, Nat.reduceMul, Int.reduceLT, Int.reduceLE, Nat.reduceAdd, Nat.reduceLeDiff, Nat.reduceBEq, Nat.reduceSub, Int.reduceSub, Int.reduceMul, Int.reduceNeg, Int.reduceAdd]
        rw [← htk]
        exact Nxt.mk (i + 1) (by omega) (Wk.slots (by rw [hS]; exact WkL.tail 9 _ rfl (by simp only [List.take_succ_cons, List.take_zero]; repeat' first | exact WkL.nil | refine WkL.cons (Wk1.rfl _) ?_ | refine WkL.cons Wk1.esl ?_ | refine WkL.cons (Wk1.gsl _ _ _) ?_ | refine WkL.cons (Wk1.any _) ?_))) ⟨by omega, by rw [htk]; exact h3, nx ⟨by omega, h4⟩⟩
      · refine (?_ : Ret _ _ _ (resA [RC.t 4] s (H ++ l)) (H ++ l))
        rw [hr]
        refine fin (no fun h => h3 ⟨?_, ((hrec.1 h).1 _ hmem).2⟩) _
        rw [← htk]
        exact (hrec.1 h).2.sublist hsubl
  · have hie : i = vs.length := by omega
    subst hie
    rw [List.take_length] at q2
    refine fin ⟨fun _ => hrec.2 ⟨fun b hb => ?_, q2⟩, fun _ => rfl⟩ _
    obtain ⟨j, hj, rfl⟩ := List.getElem_of_mem hb
    have := q3 j hj
    rwa [List.getD_eq_getElem?_getD, List.getElem?_eq_getElem hj] at this
end Go.Proofs.Ytlhpcccffmfopaa
