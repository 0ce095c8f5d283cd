/- What the layouts take of the other texts. -/
import Derived.Test.YtlhpcccffmfopaaT15
import Derived.Test.YtlhpcccffmfopaaP5
import Derived.Test.YtlhpcccffmfopaaCodeL
namespace Go.Proofs.Ytlhpcccffmfopaa
set_option linter.unusedVariables false
set_option linter.unusedSimpArgs false
set_option linter.unusedSectionVars false
set_option linter.unusedSectionVars false
set_option linter.unusedSimpArgs false
set_option linter.unusedVariables false
set_option maxRecDepth 20000
set_option maxHeartbeats 4000000
open Go.RowKit

theorem kill2 (H : List ABlk) (n : Nat) (h : n = H.length) (l : List ABlk) : ((H ++ l).set n .dead) = H ++ l.set 0 .dead := by
  subst h
  rw [List.set_append_right _ _ (Nat.le_refl _), Nat.sub_self]
theorem WStep.al {P : Program} {w u : List Nat} {d : Option Nat} {l : List AV} {s : List AV} {H : List ABlk} {Kk : List AV → List ABlk → Prop} (hw : H.length ∈ w) (hu : ∀ b ∈ u, b < H.length ∨ H.length + 1 ≤ b) (h : Kk (setO s d (.ptr H.length 0)) (H ++ [.cells l])) :
    WStep P w u ⟨d, .al l, none⟩ s H Kk := by
  refine WStep.evU (H ++ [.cells l]) (by simp) (by simp) ?_
  simp only [evK, EvK, kill_length]
  refine ⟨?_, h⟩
  rw [show kill u H ++ [ABlk.cells l] = kill u (H ++ [.cells l]) from (kill_app hu).symm]
  exact ⟨rfl, fun c hc => by
    rcases Nat.lt_or_ge c H.length with h1 | h1
    · rw [List.getElem?_append_left h1]
    · have : c ≠ H.length := fun e => hc (e ▸ hw)
      rw [List.getElem?_eq_none (by simp; omega), List.getElem?_eq_none h1], by simp⟩
theorem FrOk.put {w : List Nat} {H l l' : List ABlk} (k : Nat) (x : ABlk) (hw : H.length + k ∈ w) (h : l' = l.set k x) : FrOk w [] (H ++ l) (H ++ l') (H ++ l') := by
  subst h
  have := FrOk.set (w := w) (H := H ++ l) (b := H.length + k) (x := x) hw
  rwa [List.set_append_right _ _ (by omega), Nat.add_sub_cancel_left] at this
theorem decf {p : Prop} {i : Decidable p} (h : ¬ p) : decide p = false := decide_eq_false h
theorem dect {p : Prop} {i : Decidable p} (h : p) : decide p = true := decide_eq_true h
theorem lt_of_at {H : List ABlk} {b : Nat} {k : ABlk} (h : H[b]? = some k) : b < H.length := (List.getElem?_eq_some_iff.1 h).1
theorem at_app {H : List ABlk} {b : Nat} {k : ABlk} (h : H[b]? = some k) (l : List ABlk) : (H ++ l)[b]? = some k := by rw [List.getElem?_append_left (lt_of_at h)]; exact h
theorem set_app {H : List ABlk} {b : Nat} {k : ABlk} (h : H[b]? = some k) (x : ABlk) (l : List ABlk) : (H ++ l).set b x = H.set b x ++ l := List.set_append_left _ _ (lt_of_at h)
theorem put_self {H : List ABlk} {b : Nat} {k : ABlk} (h : H[b]? = some k) : H.set b k = H := by
  refine List.ext_getElem? fun i => ?_
  by_cases e : b = i
  · subst e; rw [List.getElem?_set_self (lt_of_at h), h]
  · rw [List.getElem?_set_ne e]
structure TT (t : List Ty) : Prop where
  s : Small t
  n : FNames t
  k : TOk t
theorem tgood_c {t : List Ty} (ht : TT t) (H : List ABlk) : ACalls Try.prog 15 [tv t] H fun v H' => v = bv (goodF t) ∧ H' = H := by
  refine ACalls.into Try.func15 cc15 rr15 fun hcl => ?_
  simp (maxSteps := 2000000) (disch := omega) only [Try.ntmps15, c15, r15, go_sem, eq_self, if_true, if_false, reduceCtorEq, Int.reduceToNat, Int.reducePow, Nat.reducePow, Nat.reduceMul, Int.reduceLT, Int.reduceLE, Nat.reduceAdd, Nat.reduceLeDiff, Nat.reduceBEq, Nat.reduceSub, Int.reduceSub, Int.reduceMul, Int.reduceNeg, Int.reduceAdd]
  refine Cont.mk (good_c ht.s ht.n _) ?_
  simp (maxSteps := 2000000) (disch := omega) only [go_sem, eq_self, if_true, if_false, reduceCtorEq, Int.reduceToNat, Int.reducePow, Nat.reducePow, Nat.reduceMul, Int.reduceLT, Int.reduceLE, Nat.reduceAdd, Nat.reduceLeDiff, Nat.reduceBEq, Nat.reduceSub, Int.reduceSub, Int.reduceMul, Int.reduceNeg, Int.reduceAdd]
  exact Ret.keep ⟨rfl, rfl⟩
theorem Nm_1 (c : UInt8) (h : letF (c.toNat : Nat) = true) : Nm ⟨#[c]⟩ := ⟨(by show 1 ≤ 1; omega), (by show 1 ≤ 24; omega), h, fun i hi => by
  have : i = 0 := by have h1 : (⟨#[c]⟩ : ByteArray).size = 1 := rfl
                     omega
  subst this
  exact .inl h⟩
section
variable {t u : List Ty}
theorem tyAt_app {a : Int} (h : placeP t a) : tyAt (t ++ u) a = tyAt t a := by
  have h1 := h.1
  have h2 := h.2
  rw [tyAt, tyAt, List.getD_eq_getElem?_getD, List.getD_eq_getElem?_getD, List.getElem?_append_left (by omega)]
theorem placeP.app {a : Int} (h : placeP t a) : placeP (t ++ u) a := ⟨h.1, by have := h.2; rw [List.length_append]; omega⟩
theorem tyAt_new {i : Nat} : tyAt (t ++ u) ((t.length : Int) + i) = u.getD i default := by
  rw [tyAt, show ((t.length : Int) + i).toNat = t.length + i by omega, List.getD_eq_getElem?_getD, List.getD_eq_getElem?_getD, List.getElem?_append_right (by omega), Nat.add_sub_cancel_left]
theorem formA_app {n : Int} (h : formA t n ≠ -1) : formA (t ++ u) n = formA t n := by
  obtain ⟨h0, h1, h2⟩ := formA_ne h
  have hp : placeP t n := ⟨h0, h1⟩
  rw [formA, if_pos (show 0 ≤ n ∧ n < ((t ++ u).length : Nat) from (hp.app (u := u))), tyAt_app hp, h2]
theorem part_app {n : Int} (h : partP (formA t n)) : partP (formA (t ++ u) n) := by
  rw [formA_app (by rcases h with h | h | h <;> omega)]; exact h
theorem is_app {n k : Int} (h : formA t n = k) (hk : k ≠ -1) : formA (t ++ u) n = k := by
  rw [formA_app (by omega)]; exact h
theorem FormedP.app {x : Ty} (h : FormedP t x) : FormedP (t ++ u) x := by
  refine ⟨?_, h.2⟩
  rcases h.1 with h | h | h | h | h
  · exact .inl ⟨h.1, h.2.1, h.2.2.1, part_app h.2.2.2⟩
  · exact .inr (.inl ⟨h.1, h.2.imp part_app fun k => is_app k (by decide)⟩)
  · exact .inr (.inr (.inl ⟨h.1, h.2.1.imp_right fun k => is_app k (by decide), h.2.2.1, h.2.2.2.1, h.2.2.2.2.1, fun f hf => ⟨(h.2.2.2.2.2 f hf).1, part_app (h.2.2.2.2.2 f hf).2⟩⟩))
  · exact .inr (.inr (.inr (.inl ⟨h.1, is_app h.2 (by decide)⟩)))
  · refine .inr (.inr (.inr (.inr ⟨h.1, h.2.1, h.2.2.1.imp_right fun k => ?_, fun p hp => (h.2.2.2 p hp).imp part_app fun k => is_app k (by decide)⟩)))
    rw [formA_app (by rcases k with k | k | k <;> omega)]; exact k
theorem RecIn.pl {a : Int} (h : RecIn t a) : placeP t a := ⟨h.1, h.2.1⟩
theorem chain_app (h : GoodP t) : ∀ {n : Nat} {a : Int}, RecIn t a → chain (t ++ u) n a = chain t n a
  | 0, a, _ => rfl
  | n + 1, a, ha => by
    simp only [chain]
    rw [tyAt_app ha.pl]
    rcases h.base ha with hb | hb
    · rw [if_pos hb, if_pos hb]
    · rw [chain_app h hb]
structure NewP (t u : List Ty) : Prop where
  len : t.length + u.length ≤ 256
  frm : ∀ i, i < u.length → FormedP (t ++ u) (u.getD i default)
  kid : ∀ i : Nat, i < u.length → ∀ y ∈ kidsC (t ++ u) ((t.length : Int) + i), 0 ≤ y ∧ y < (t.length : Int) + i
  rec_ : ∀ i, i < u.length → (u.getD i default).form = 9 → (u.getD i default).base = 0 ∧ (u.getD i default).desc = -1 ∧ ((u.getD i default).fields.map Fd.name).Nodup
theorem getD_app_l {i : Nat} (h : i < t.length) : (t ++ u).getD i default = t.getD i default := by
  rw [List.getD_eq_getElem?_getD, List.getD_eq_getElem?_getD, List.getElem?_append_left h]
theorem getD_app_r {i : Nat} (h : t.length ≤ i) : (t ++ u).getD i default = u.getD (i - t.length) default := by
  rw [List.getD_eq_getElem?_getD, List.getD_eq_getElem?_getD, List.getElem?_append_right h]
theorem kids_app {a : Int} (ha : placeP t a) : kidsC (t ++ u) a = kidsC t a := by unfold kidsC; rw [tyAt_app ha]
theorem names_app {l : List Int} (h : ∀ c ∈ l, placeP t c) : namesL (t ++ u) l = namesL t l := by
  induction l with
  | nil => rfl
  | cons c l ih =>
    simp only [namesL, List.flatMap_cons]
    rw [tyAt_app (h c (by simp))]
    have := ih fun d hd => h d (by simp [hd])
    simp only [namesL] at this
    rw [this]
theorem GoodP.app (h : GoodP t) (k : NewP t u) : GoodP (t ++ u) := by
  have hl := h.len
  have hlen : (t ++ u).length = t.length + u.length := List.length_append
  have accT : ∀ a : Int, Acc (KdC t) a → placeP t a → Acc (KdC (t ++ u)) a := fun a ha => by
    induction ha with
    | intro a _ ih =>
      intro hp
      refine ⟨_, fun y hy => ?_⟩
      have hy' : y ∈ kidsC t a := by rw [← kids_app (u := u) hp]; exact hy
      exact ih y hy' (h.toFrmP.kid hp.1 hp.2 hy')
  have accN : ∀ n : Nat, ∀ i : Nat, i ≤ n → i < t.length + u.length → Acc (KdC (t ++ u)) (i : Int) := by
    intro n
    induction n using Nat.strongRecOn with
    | _ n ih =>
      intro i hi hi2
      by_cases hlt : i < t.length
      · exact accT _ (h.acc _ (by omega) (by omega)) ⟨by omega, by omega⟩
      · refine ⟨_, fun y hy => ?_⟩
        have hk := k.kid (i - t.length) (by omega) y (by rw [show ((t.length : Int) + (i - t.length : Nat)) = i by omega]; exact hy)
        have := ih y.toNat (by omega) y.toNat (Nat.le_refl _) (by omega)
        rwa [show ((y.toNat : Nat) : Int) = y by omega] at this
  refine ⟨⟨by rw [hlen]; have := k.len; omega, fun i hi => ?_, fun i h7 hi => ?_⟩, fun a a0 a1 => ?_, fun i j hij hj => ?_, fun i hi => ?_⟩
  · rw [getD_app_l (by omega)]; exact h.bas i hi
  · by_cases hlt : i < t.length
    · rw [getD_app_l hlt]; exact (h.frm i h7 hlt).app
    · rw [getD_app_r (by omega)]; exact k.frm _ (by omega)
  · have := accN a.toNat a.toNat (Nat.le_refl _) (by omega)
    rwa [show ((a.toNat : Nat) : Int) = a by omega] at this
  · by_cases hlt : j < t.length
    · rw [getD_app_l hlt, getD_app_l (by omega)]; exact h.uni i j hij hlt
    · rintro ⟨_, h9, h0, _, he⟩
      rw [getD_app_r (show t.length ≤ j by omega)] at h9 he
      have := (k.rec_ _ (by omega) h9).2.1
      omega
  · rintro ⟨h9, hc⟩
    by_cases hlt : i < t.length
    · rw [getD_app_l hlt] at h9
      have hr : RecIn t (i : Int) := ⟨by omega, by omega, h9⟩
      refine hc ?_
      have hch : ChainP t i := Classical.byContradiction fun hn => h.chn i hlt ⟨h9, hn⟩
      unfold ChainP at hch ⊢
      rw [chain_app h hr, names_app fun c hc => (h.chain_rec hr c hc).pl]
      exact hch
    · rw [getD_app_r (by omega)] at h9
      obtain ⟨b0, _, nd⟩ := k.rec_ _ (by omega) h9
      have e : tyAt (t ++ u) (i : Int) = u.getD (i - t.length) default := by
        have := tyAt_new (t := t) (u := u) (i := i - t.length)
        rwa [show ((t.length : Int) + (i - t.length : Nat)) = i by omega] at this
      refine hc ?_
      unfold ChainP namesL
      simp only [chain]
      rw [e, b0, if_pos rfl]
      simpa [e] using nd
end
end Go.Proofs.Ytlhpcccffmfopaa

/- Plain law: sizes, and the sizes that are kept. -/
namespace Go.Proofs.Ytlhpcccffmfopaa
set_option linter.unusedVariables false
set_option linter.unusedSimpArgs false
set_option linter.unusedSectionVars false
set_option linter.unusedSimpArgs false
set_option linter.unusedVariables false

def upI (n : Int) : Int := (n + 3) / 4 * 4
def cutI (n : Int) : Int := min n 32769
def atI (t : List Ty) (n a : Int) : Int := if (tyAt t a).form = 2 ∨ (tyAt t a).form = 3 then n else upI n
def endI (t : List Ty) (g : Int → Int) (n : Int) (l : List Int) : Int := l.foldl (fun n a => cutI (atI t n a + g a)) n
def szG (t : List Ty) (a : Int) (g : Int → Int) : Int :=
  if (tyAt t a).form = 1 ∨ (tyAt t a).form = 4 ∨ (tyAt t a).form = 10 ∨ (tyAt t a).form = 11 then 4
  else if (tyAt t a).form = 2 ∨ (tyAt t a).form = 3 then 1
  else if (tyAt t a).form = 7 then cutI (upI ((tyAt t a).len * g (tyAt t a).elem))
  else if (tyAt t a).form = 9 then cutI (upI (endI t g (g (tyAt t a).base) ((tyAt t a).fields.map Fd.typ)))
  else 0
/-- What a type's size asks. -/
def KZ (t : List Ty) (a : Int) : List Int := if (tyAt t a).form = 7 then [(tyAt t a).elem] else if (tyAt t a).form = 9 then (tyAt t a).base :: (tyAt t a).fields.map Fd.typ else []
abbrev LZ (t : List Ty) (y x : Int) : Prop := y ∈ KZ t x
theorem KZ_sub {t : List Ty} {y x : Int} (h : LZ t y x) : KdC t y x := by
  unfold LZ KZ at h
  show y ∈ kidsC t x
  unfold kidsC
  split at h
  · rename_i f; rw [if_pos (.inl f)]; exact h
  · split at h
    · rename_i f; rw [if_neg (by omega), if_pos f]; exact h
    · cases h
theorem accZ {t : List Ty} {a : Int} (h : Acc (KdC t) a) : Acc (LZ t) a := Subrelation.accessible (fun h => KZ_sub h) h
def RZ (t : List Ty) (y x : Int) : Prop := LZ t y x ∧ Acc (LZ t) x
theorem wfZ (t : List Ty) : WellFounded (RZ t) := ⟨fun a => by
  by_cases h : Acc (LZ t) a
  · induction h with
    | intro a _ ih => exact ⟨_, fun y hy => ih y hy.1⟩
  · exact ⟨_, fun y hy => absurd hy.2 h⟩⟩
open Classical in
noncomputable def szF (t : List Ty) : Int → Int := (wfZ t).fix fun a ih => szG t a fun y => if h : RZ t y a then ih y h else 0
theorem end_congr {t : List Ty} {g g' : Int → Int} : ∀ {l : List Int} {n : Int}, (∀ y ∈ l, g y = g' y) → endI t g n l = endI t g' n l
  | [], n, _ => rfl
  | a :: l, n, h => by
    simp only [endI, List.foldl_cons]
    rw [h a (by simp)]
    exact end_congr fun y hy => h y (by simp [hy])
theorem szG_congr {t : List Ty} {a : Int} {g g' : Int → Int} (h : ∀ y ∈ KZ t a, g y = g' y) : szG t a g = szG t a g' := by
  unfold szG
  unfold KZ at h
  by_cases f7 : (tyAt t a).form = 7
  · rw [if_pos f7] at h
    rw [if_pos f7, if_pos f7, h _ (by simp)]
  · rw [if_neg f7] at h
    rw [if_neg f7, if_neg f7]
    by_cases f9 : (tyAt t a).form = 9
    · rw [if_pos f9] at h
      rw [if_pos f9, if_pos f9, h _ (by simp), end_congr fun y hy => h y (by simp only [List.mem_cons]; exact .inr hy)]
    · rw [if_neg f9, if_neg f9]
theorem szF_eq {t : List Ty} {a : Int} (h : Acc (LZ t) a) : szF t a = szG t a (szF t) := by
  rw [szF, WellFounded.fix_eq]
  exact szG_congr fun y hy => by rw [dif_pos (show RZ t y a from ⟨hy, h⟩)]
theorem up_ge {n : Int} (h : 0 ≤ n) : n ≤ upI n ∧ upI n ≤ n + 3 ∧ 0 ≤ upI n := by unfold upI; omega
theorem at_ge (t : List Ty) {n : Int} (a : Int) (h : 0 ≤ n) : n ≤ atI t n a ∧ atI t n a ≤ n + 3 := by
  unfold atI
  split
  · omega
  · have := up_ge h; omega
theorem cut_rng {n : Int} (h : 0 ≤ n) : 0 ≤ cutI n ∧ cutI n ≤ 32769 := by unfold cutI; omega
theorem end_rng {t : List Ty} {g : Int → Int} : ∀ {l : List Int} {n : Int}, (∀ y ∈ l, 0 ≤ g y) → 0 ≤ n ∧ n ≤ 32769 → 0 ≤ endI t g n l ∧ endI t g n l ≤ 32769
  | [], n, _, h => h
  | a :: l, n, hg, h => by
    simp only [endI, List.foldl_cons]
    have h1 := at_ge t a h.1
    have h2 := hg a (by simp)
    exact end_rng (fun y hy => hg y (by simp [hy])) (cut_rng (by omega))
theorem GoodP.kidZ {t : List Ty} (h : GoodP t) {a : Int} (ha : placeP t a) {y : Int} (hy : y ∈ KZ t a) : placeP t y := h.toFrmP.kid ha.1 ha.2 (KZ_sub hy)
theorem GoodP.len7 {t : List Ty} (h : GoodP t) {a : Int} (ha : placeP t a) (f : (tyAt t a).form = 7) : 1 ≤ (tyAt t a).len ∧ (tyAt t a).len ≤ 4096 := by
  rcases h.at_ ha.1 ha.2 with ⟨h7, e⟩ | ⟨h7, hf⟩
  · rw [e] at f; simp [bt] at f; omega
  · have := FrmP.f7 hf f; exact ⟨this.1, this.2.1⟩
theorem sz_rng {t : List Ty} (h : GoodP t) {a : Int} (hac : Acc (LZ t) a) : placeP t a → 0 ≤ szF t a ∧ szF t a ≤ 32769 := by
  induction hac with
  | intro a hacc ih =>
  intro ha
  have ihk : ∀ y ∈ KZ t a, 0 ≤ szF t y ∧ szF t y ≤ 32769 := fun y hy => ih y hy (h.kidZ ha hy)
  rw [szF_eq ⟨a, hacc⟩]
  unfold szG
  split
  · omega
  split
  · omega
  split
  · rename_i f
    have := (ihk (tyAt t a).elem (by unfold KZ; rw [if_pos f]; simp)).1
    have hl := (h.len7 ha f).1
    have : 0 ≤ (tyAt t a).len * szF t (tyAt t a).elem := Int.mul_nonneg (by omega) this
    exact cut_rng (up_ge this).2.2
  split
  · rename_i f7 f
    have e : KZ t a = (tyAt t a).base :: (tyAt t a).fields.map Fd.typ := by unfold KZ; rw [if_neg f7, if_pos f]
    have hb := ihk (tyAt t a).base (by rw [e]; simp)
    have := end_rng (t := t) (g := szF t) (l := (tyAt t a).fields.map Fd.typ) (n := szF t (tyAt t a).base) (fun y hy => (ihk y (by rw [e]; exact List.mem_cons_of_mem _ hy)).1) hb
    exact cut_rng (up_ge this.1).2.2
  · omega
theorem GoodP.sz {t : List Ty} (h : GoodP t) {a : Int} (ha : placeP t a) : 0 ≤ szF t a ∧ szF t a ≤ 32769 := sz_rng h (accZ (h.acc _ ha.1 ha.2)) ha

/-! the sizes that are kept -/
inductive Rch (K : Int → List Int) : Int → Int → Prop
  | refl (a : Int) : Rch K a a
  | step {a y c : Int} : y ∈ K a → Rch K y c → Rch K a c
theorem Rch.iff {K : Int → List Int} {a c : Int} : Rch K a c ↔ c = a ∨ ∃ y ∈ K a, Rch K y c :=
  ⟨fun h => by
    cases h with
    | refl => exact .inl rfl
    | step h1 h2 => exact .inr ⟨_, h1, h2⟩, fun h => by
    rcases h with rfl | ⟨y, h1, h2⟩
    · exact .refl _
    · exact .step h1 h2⟩
section
variable (t : List Ty) (K : Int → List Int)
open Classical in
noncomputable def updM (m : List Int) (a : Int) : List Int := (List.range m.length).map fun i : Nat => if Rch K a i then szF t i + 1 else m.getD i 0
structure MOk (m : List Int) : Prop where
  val : ∀ i : Nat, m.getD i 0 = 0 ∨ m.getD i 0 = szF t i + 1
  cls : ∀ i : Nat, m.getD i 0 ≠ 0 → ∀ y ∈ K i, 0 ≤ y ∧ m.getD y.toNat 0 ≠ 0
variable {t K}
theorem updM_len (m : List Int) (a : Int) : (updM t K m a).length = m.length := by simp [updM]
theorem updM_at {m : List Int} {a : Int} {i : Nat} (hi : i < m.length) : (Rch K a i → (updM t K m a).getD i 0 = szF t i + 1) ∧ (¬ Rch K a i → (updM t K m a).getD i 0 = m.getD i 0) := by
  have e : (updM t K m a).getD i 0 = (open Classical in if Rch K a i then szF t i + 1 else m.getD i 0) := by
    rw [updM, List.getD_eq_getElem?_getD, List.getElem?_map, List.getElem?_range hi]; rfl
  rw [e]
  exact ⟨fun h => if_pos h, fun h => if_neg h⟩
theorem updM_out {m : List Int} {a : Int} {i : Nat} (hi : m.length ≤ i) : (updM t K m a).getD i 0 = 0 := by
  rw [List.getD_eq_getElem?_getD, List.getElem?_eq_none (by rw [updM_len]; exact hi)]; rfl
theorem getD_out {m : List Int} {i : Nat} (hi : m.length ≤ i) : m.getD i 0 = 0 := by
  rw [List.getD_eq_getElem?_getD, List.getElem?_eq_none hi]; rfl
theorem MOk.rch {m : List Int} (h : MOk t K m) {a c : Int} (hr : Rch K a c) : 0 ≤ a → m.getD a.toNat 0 ≠ 0 → 0 ≤ c ∧ m.getD c.toNat 0 ≠ 0 := by
  induction hr with
  | refl a => exact fun h0 h1 => ⟨h0, h1⟩
  | @step a y c hy _ ih =>
    intro h0 h1
    have := h.cls a.toNat h1 y (by rw [show ((a.toNat : Nat) : Int) = a by omega]; exact hy)
    exact ih this.1 this.2
theorem list_ext {m m' : List Int} (hl : m.length = m'.length) (h : ∀ i, i < m.length → m.getD i 0 = m'.getD i 0) : m = m' := ext_at hl h
/-- It was kept. -/
theorem updM_id {m : List Int} (h : MOk t K m) {a : Int} (h0 : 0 ≤ a) (ha : m.getD a.toNat 0 ≠ 0) : updM t K m a = m := by
  refine list_ext (updM_len _ _) fun i hi => ?_
  rw [updM_len] at hi
  by_cases hr : Rch K a i
  · rw [(updM_at hi).1 hr]
    have := (h.rch hr h0 ha).2
    rw [Int.toNat_natCast] at this
    rcases h.val i with k | k
    · exact absurd k this
    · exact k.symm
  · exact (updM_at hi).2 hr
/-- All that is reached lies in the table. -/
def InK (K : Int → List Int) (n : Nat) : Prop := ∀ a : Int, 0 ≤ a → a < n → ∀ y ∈ K a, 0 ≤ y ∧ y < n
theorem Rch.rng {n : Nat} (hK : InK K n) {a c : Int} (h : Rch K a c) : 0 ≤ a → a < n → 0 ≤ c ∧ c < n := by
  induction h with
  | refl a => exact fun h0 h1 => ⟨h0, h1⟩
  | step hy _ ih => exact fun h0 h1 => ih (hK _ h0 h1 _ hy).1 (hK _ h0 h1 _ hy).2
theorem Rch.tail {a y c : Int} (h : Rch K a y) (hc : c ∈ K y) : Rch K a c := by
  induction h with
  | refl a => exact .step hc (.refl _)
  | step h1 _ ih => exact .step h1 (ih hc)
theorem MOk.upd {n : Nat} (hK : InK K n) {m : List Int} (hn : n ≤ m.length) (h : MOk t K m) {a : Int} (h0 : 0 ≤ a) (h1 : a < n) (hs : ∀ c : Int, Rch K a c → 0 ≤ szF t c) : MOk t K (updM t K m a) := by
  refine ⟨fun i => ?_, fun i hi y hy => ?_⟩
  · by_cases hl : i < m.length
    · by_cases hr : Rch K a i
      · exact .inr ((updM_at hl).1 hr)
      · rw [(updM_at hl).2 hr]; exact h.val i
    · exact .inl (updM_out (by omega))
  · by_cases hl : i < m.length
    · by_cases hr : Rch K a i
      · have hry := hr.tail hy
        have hyr := hry.rng hK h0 h1
        refine ⟨hyr.1, ?_⟩
        rw [(updM_at (by omega)).1 (by rw [show ((y.toNat : Nat) : Int) = y by omega]; exact hry), show ((y.toNat : Nat) : Int) = y by omega]
        have := hs y hry
        omega
      · rw [(updM_at hl).2 hr] at hi
        obtain ⟨y0, hm⟩ := h.cls i hi y hy
        refine ⟨y0, ?_⟩
        have hyl : y.toNat < m.length := Nat.lt_of_not_le fun k => hm (getD_out k)
        by_cases hr2 : Rch K a (y.toNat : Nat)
        · rw [(updM_at hyl).1 hr2]
          have := hs _ hr2
          omega
        · rw [(updM_at hyl).2 hr2]; exact hm
    · exact absurd (updM_out (by omega)) hi
theorem fold_at : ∀ {l : List Int} {m : List Int} {i : Nat}, i < m.length → ((∃ y ∈ l, Rch K y i) → (l.foldl (updM t K) m).getD i 0 = szF t i + 1) ∧ ((¬ ∃ y ∈ l, Rch K y i) → (l.foldl (updM t K) m).getD i 0 = m.getD i 0) ∧ (l.foldl (updM t K) m).length = m.length
  | [], m, i, hi => ⟨fun ⟨y, hy, _⟩ => absurd hy (by simp), fun _ => rfl, rfl⟩
  | a :: l, m, i, hi => by
    have ih := fold_at (l := l) (m := updM t K m a) (i := i) (by rw [updM_len]; exact hi)
    simp only [List.foldl_cons]
    refine ⟨fun h => ?_, fun h => ?_, by rw [ih.2.2, updM_len]⟩
    · by_cases h2 : ∃ y ∈ l, Rch K y i
      · exact ih.1 h2
      · rw [ih.2.1 h2]
        obtain ⟨y, hy, hr⟩ := h
        rcases List.mem_cons.1 hy with rfl | hy
        · exact (updM_at hi).1 hr
        · exact absurd ⟨y, hy, hr⟩ h2
    · rw [ih.2.1 fun ⟨y, hy, hr⟩ => h ⟨y, by simp [hy], hr⟩]
      exact (updM_at hi).2 fun hr => h ⟨a, by simp, hr⟩
theorem fold_len (l m : List Int) : (l.foldl (updM t K) m).length = m.length := by
  induction l generalizing m with
  | nil => rfl
  | cons a l ih => rw [List.foldl_cons, ih, updM_len]
/-- It is reckoned. -/
theorem updM_new {m : List Int} {a : Int} (h0 : 0 ≤ a) (h1 : a.toNat < m.length) : ((K a).foldl (updM t K) m).set a.toNat (szF t a + 1) = updM t K m a := by
  refine list_ext (by rw [List.length_set, fold_len, updM_len]) fun i hi => ?_
  rw [List.length_set, fold_len] at hi
  have hf := fold_at (t := t) (K := K) (l := K a) (m := m) hi
  by_cases e : a.toNat = i
  · subst e
    rw [(updM_at hi).1 (by rw [show ((a.toNat : Nat) : Int) = a by omega]; exact .refl _), show ((a.toNat : Nat) : Int) = a by omega]
    rw [List.getD_eq_getElem?_getD, List.getElem?_set_self (by rw [fold_len]; exact hi)]; rfl
  · rw [List.getD_eq_getElem?_getD, List.getElem?_set_ne e, ← List.getD_eq_getElem?_getD]
    by_cases hr : ∃ y ∈ K a, Rch K y i
    · rw [hf.1 hr, (updM_at hi).1 (Rch.iff.2 (.inr hr))]
    · rw [hf.2.1 hr, (updM_at hi).2 fun k => by
        rcases Rch.iff.1 k with k | k
        · omega
        · exact hr k]
theorem MOk.fold {n : Nat} (hK : InK K n) (hs : ∀ c : Int, 0 ≤ c → c < n → 0 ≤ szF t c) : ∀ {l : List Int} {m : List Int}, n ≤ m.length → MOk t K m → (∀ y ∈ l, 0 ≤ y ∧ y < n) → MOk t K (l.foldl (updM t K) m)
  | [], m, _, h, _ => h
  | a :: l, m, hn, h, hl => by
    have ha := hl a (by simp)
    rw [List.foldl_cons]
    exact MOk.fold hK hs (by rw [updM_len]; exact hn) (h.upd hK hn ha.1 ha.2 fun c hc => hs c (hc.rng hK ha.1 ha.2).1 (hc.rng hK ha.1 ha.2).2) fun y hy => hl y (by simp [hy])
theorem MOk.zero (n : Nat) : MOk t K (List.replicate n 0) := by
  have : ∀ i, (List.replicate n (0 : Int)).getD i 0 = 0 := fun i => by
    rw [List.getD_eq_getElem?_getD, List.getElem?_replicate]; split <;> rfl
  exact ⟨fun i => .inl (this i), fun i hi => absurd (this i) hi⟩
end
end Go.Proofs.Ytlhpcccffmfopaa

/- Plain law: sizes and places, as the document reckons them. -/
namespace Go.Proofs.Ytlhpcccffmfopaa
set_option linter.unusedVariables false
set_option linter.unusedSimpArgs false
set_option linter.unusedSectionVars false
set_option linter.unusedSimpArgs false
set_option linter.unusedVariables false

def stepR (t : List Ty) (g : Int → Int) (n a : Int) : Int := min (atI t n a + g a) 32772
def endR (t : List Ty) (g : Int → Int) (n : Int) (l : List Int) : Int := l.foldl (stepR t g) n
/-- Where things of types lie. -/
def atsR (t : List Ty) (g : Int → Int) : Int → List Int → List Int
  | _, [] => []
  | n, a :: l => atI t n a :: atsR t g (stepR t g n a) l
theorem atsR_len (t : List Ty) (g : Int → Int) : ∀ (n : Int) (l : List Int), (atsR t g n l).length = l.length
  | _, [] => rfl
  | n, a :: l => by simp [atsR, atsR_len]
theorem atsR_app (t : List Ty) (g : Int → Int) : ∀ (n : Int) (l : List Int) (a : Int), atsR t g n (l ++ [a]) = atsR t g n l ++ [atI t (endR t g n l) a]
  | n, [], a => rfl
  | n, b :: l, a => by simp only [List.cons_append, atsR, atsR_app, endR, List.foldl_cons]
theorem endR_app (t : List Ty) (g : Int → Int) (n : Int) (l : List Int) (a : Int) : endR t g n (l ++ [a]) = stepR t g (endR t g n l) a := by
  simp only [endR, List.foldl_append, List.foldl_cons, List.foldl_nil]
theorem endR_rng {t : List Ty} {g : Int → Int} : ∀ {l : List Int} {n : Int}, (∀ y ∈ l, 0 ≤ g y) → 0 ≤ n ∧ n ≤ 32772 → n ≤ endR t g n l ∧ endR t g n l ≤ 32772
  | [], n, _, h => by simp only [endR, List.foldl_nil]; omega
  | a :: l, n, hg, h => by
    have h1 := at_ge t a h.1
    have h2 := hg a (by simp)
    have h3 : n ≤ stepR t g n a ∧ stepR t g n a ≤ 32772 := by unfold stepR; omega
    have := endR_rng (t := t) (g := g) (l := l) (n := stepR t g n a) (fun y hy => hg y (by simp [hy])) (by omega)
    simp only [endR, List.foldl_cons] at this ⊢
    omega
theorem cut_step {t : List Ty} {g : Int → Int} {n a : Int} (h0 : 0 ≤ n) (hg : 0 ≤ g a) : cutI (atI t (cutI n) a + g a) = cutI (stepR t g n a) := by
  unfold stepR
  rcases Int.lt_or_le 32768 n with h | h
  rotate_left
  · rw [show cutI n = n by unfold cutI; omega]
    unfold cutI; omega
  · have e : cutI n = 32769 := by unfold cutI; omega
    rw [e]
    have h1 := at_ge t (n := 32769) a (by omega)
    have h2 := at_ge t (n := n) a h0
    unfold cutI; omega
theorem end_cut {t : List Ty} {g : Int → Int} : ∀ {l : List Int} {n : Int}, (∀ y ∈ l, 0 ≤ g y) → 0 ≤ n → endI t g (cutI n) l = cutI (endR t g n l)
  | [], n, _, _ => rfl
  | a :: l, n, hg, h0 => by
    have h2 := hg a (by simp)
    have h1 := at_ge t a h0
    simp only [endI, endR, List.foldl_cons]
    rw [cut_step h0 h2]
    exact end_cut (t := t) (g := g) (l := l) (n := stepR t g n a) (fun y hy => hg y (by simp [hy])) (by unfold stepR; omega)
theorem cut_up (n : Int) : cutI (upI (cutI n)) = cutI (upI n) := by unfold cutI upI; omega
/-- What a type's size asks, there. -/
def KR (t : List Ty) (a : Int) : List Int := if (tyAt t a).form = 7 then [(tyAt t a).elem] else if (tyAt t a).form = 9 then (if (tyAt t a).base = 0 then [] else [(tyAt t a).base]) ++ (tyAt t a).fields.map Fd.typ else []
theorem KR_sub {t : List Ty} {y x : Int} (h : y ∈ KR t x) : y ∈ KZ t x := by
  unfold KR at h
  unfold KZ
  split at h
  · rename_i f; rw [if_pos f]; exact h
  · rename_i f7
    rw [if_neg f7]
    split at h
    · rename_i f
      rw [if_pos f]
      split at h
      · exact List.mem_cons_of_mem _ (by simpa using h)
      · simpa using h
    · cases h
abbrev LR (t : List Ty) (y x : Int) : Prop := y ∈ KR t x
theorem accR {t : List Ty} {a : Int} (h : Acc (KdC t) a) : Acc (LR t) a := Subrelation.accessible (fun h => KR_sub h) (accZ h)
theorem GoodP.sz_0 {t : List Ty} (h : GoodP t) : szF t 0 = 0 := by
  have hl := h.len
  have e : tyAt t 0 = bt 0 := tyAt_lt h.toFrmP (by decide) (by decide)
  rw [szF_eq (accZ (h.acc 0 (by omega) (by omega)))]
  unfold szG
  rw [e]; simp [bt]
theorem GoodP.sz_rec {t : List Ty} (h : GoodP t) {a : Int} (ha : placeP t a) (f : (tyAt t a).form = 9) : szF t a = cutI (upI (endR t (szF t) (szF t (tyAt t a).base) ((tyAt t a).fields.map Fd.typ))) := by
  have e : KZ t a = (tyAt t a).base :: (tyAt t a).fields.map Fd.typ := by unfold KZ; rw [if_neg (by omega), if_pos f]
  have hb := h.sz (h.kidZ ha (y := (tyAt t a).base) (by rw [e]; simp))
  have hz : ∀ y ∈ (tyAt t a).fields.map Fd.typ, 0 ≤ szF t y := fun y hy => (h.sz (h.kidZ ha (by rw [e]; exact List.mem_cons_of_mem _ hy))).1
  rw [szF_eq (accZ (h.acc a ha.1 ha.2))]
  unfold szG
  rw [if_neg (by omega), if_neg (by omega), if_neg (by omega), if_pos f]
  have := end_cut (t := t) (n := szF t (tyAt t a).base) hz hb.1
  rw [show cutI (szF t (tyAt t a).base) = szF t (tyAt t a).base by unfold cutI; omega] at this
  rw [this, cut_up]
theorem GoodP.sz_arr {t : List Ty} (h : GoodP t) {a : Int} (ha : placeP t a) (f : (tyAt t a).form = 7) : szF t a = cutI (upI ((tyAt t a).len * szF t (tyAt t a).elem)) := by
  rw [szF_eq (accZ (h.acc a ha.1 ha.2))]
  unfold szG
  rw [if_neg (by omega), if_neg (by omega), if_pos f]
theorem GoodP.sz_4 {t : List Ty} (h : GoodP t) {a : Int} (ha : placeP t a) (f : (tyAt t a).form = 1 ∨ (tyAt t a).form = 4 ∨ (tyAt t a).form = 10 ∨ (tyAt t a).form = 11) : szF t a = 4 := by
  rw [szF_eq (accZ (h.acc a ha.1 ha.2))]
  unfold szG
  rw [if_pos f]
theorem GoodP.sz_1 {t : List Ty} (h : GoodP t) {a : Int} (ha : placeP t a) (f : (tyAt t a).form = 2 ∨ (tyAt t a).form = 3) : szF t a = 1 := by
  rw [szF_eq (accZ (h.acc a ha.1 ha.2))]
  unfold szG
  rw [if_neg (by omega), if_pos f]
theorem GoodP.sz_no {t : List Ty} (h : GoodP t) {a : Int} (ha : placeP t a) (f1 : ¬ ((tyAt t a).form = 1 ∨ (tyAt t a).form = 4 ∨ (tyAt t a).form = 10 ∨ (tyAt t a).form = 11)) (f2 : ¬ ((tyAt t a).form = 2 ∨ (tyAt t a).form = 3)) (f7 : (tyAt t a).form ≠ 7) (f9 : (tyAt t a).form ≠ 9) : szF t a = 0 := by
  rw [szF_eq (accZ (h.acc a ha.1 ha.2))]
  unfold szG
  rw [if_neg f1, if_neg f2, if_neg f7, if_neg f9]
end Go.Proofs.Ytlhpcccffmfopaa

/- Plain law: where fields lie. -/
namespace Go.Proofs.Ytlhpcccffmfopaa
set_option linter.unusedVariables false
set_option linter.unusedSimpArgs false
set_option linter.unusedSectionVars false
set_option linter.unusedSimpArgs false
set_option linter.unusedVariables false

def typsL (t : List Ty) (a : Int) : List Int := (tyAt t a).fields.map Fd.typ
/-- How many bytes so many fields need. -/
noncomputable def RR (t : List Ty) (a : Int) (i : Nat) : Int := endR t (szF t) (szF t (tyAt t a).base) ((typsL t a).take i)
noncomputable def fAt (t : List Ty) (a : Int) (i : Nat) : Int := atI t (RR t a i) ((typsL t a).getD i 0)
def fIdx (s : ByteArray) (l : List Fd) : Nat := l.findIdx fun f => decide (f.name = s)
noncomputable def offL (t : List Ty) (s : ByteArray) : List Int → Int × Int × Bool
  | [] => (0, 0, false)
  | a :: l => if fIdx s (tyAt t a).fields < (tyAt t a).fields.length then (fAt t a (fIdx s (tyAt t a).fields), (typsL t a).getD (fIdx s (tyAt t a).fields) 0, true) else offL t s l
theorem typsL_len (t : List Ty) (a : Int) : (typsL t a).length = (tyAt t a).fields.length := by rw [typsL, List.length_map]
theorem typsL_at {t : List Ty} {a : Int} {i : Nat} (hi : i < (tyAt t a).fields.length) : (typsL t a).getD i 0 = ((tyAt t a).fields.getD i default).typ := by
  rw [typsL, List.getD_eq_getElem?_getD, List.getD_eq_getElem?_getD, List.getElem?_map, List.getElem?_eq_getElem hi]; rfl
theorem fIdx_at {s : ByteArray} {l : List Fd} {i : Nat} (hi : i < l.length) (h : (l.getD i default).name = s) (hb : ∀ j, j < i → (l.getD j default).name ≠ s) : fIdx s l = i := by
  have e : ∀ j (hj : j < l.length), l.getD j default = l[j] := fun j hj => by rw [List.getD_eq_getElem?_getD, List.getElem?_eq_getElem hj]; rfl
  unfold fIdx
  rw [List.findIdx_eq hi]
  refine ⟨by rw [← e i hi]; exact decide_eq_true h, fun j hj => ?_⟩
  have := hb j hj
  rw [e j (by omega)] at this
  exact decide_eq_false this
theorem fIdx_no {s : ByteArray} {l : List Fd} (hb : ∀ j, j < l.length → (l.getD j default).name ≠ s) : ¬ fIdx s l < l.length := by
  intro h
  have := List.findIdx_getElem (w := h)
  have e : l.getD (fIdx s l) default = l[fIdx s l] := by rw [List.getD_eq_getElem?_getD, List.getElem?_eq_getElem h]; rfl
  exact hb _ h (by rw [e]; exact of_decide_eq_true this)
theorem offL_yes {t : List Ty} {s : ByteArray} {a : Int} {l : List Int} {i : Nat} (hi : i < (tyAt t a).fields.length) (h : ((tyAt t a).fields.getD i default).name = s) (hb : ∀ j, j < i → ((tyAt t a).fields.getD j default).name ≠ s) :
    offL t s (a :: l) = (fAt t a i, (typsL t a).getD i 0, true) := by
  have e := fIdx_at hi h hb
  rw [offL, e, if_pos hi]
theorem offL_no {t : List Ty} {s : ByteArray} {a : Int} {l : List Int} (hb : ∀ j, j < (tyAt t a).fields.length → ((tyAt t a).fields.getD j default).name ≠ s) : offL t s (a :: l) = offL t s l := by
  rw [offL, if_neg (fIdx_no hb)]
section
variable {t : List Ty} (hg : GoodP t) {a : Int} (ha : RecIn t a)
include hg ha
theorem rec_kids : ∀ y ∈ KZ t a, placeP t y := fun y hy => hg.kidZ ⟨ha.1, ha.2.1⟩ hy
theorem rec_typ {y : Int} (hy : y ∈ typsL t a) : placeP t y := rec_kids hg ha y (by unfold KZ; rw [if_neg (by rw [ha.2.2]; decide), if_pos ha.2.2]; exact List.mem_cons_of_mem _ hy)
theorem rec_base : placeP t (tyAt t a).base := rec_kids hg ha _ (by unfold KZ; rw [if_neg (by rw [ha.2.2]; decide), if_pos ha.2.2]; exact List.mem_cons_self ..)
theorem typ_at_mem {i : Nat} (hi : i < (tyAt t a).fields.length) : (typsL t a).getD i 0 ∈ typsL t a := by
  rw [List.getD_eq_getElem?_getD, List.getElem?_eq_getElem (by rw [typsL_len]; exact hi)]; exact List.getElem_mem _
theorem RR_rng (i : Nat) : szF t (tyAt t a).base ≤ RR t a i ∧ RR t a i ≤ 32772 := by
  have hb := hg.sz (rec_base hg ha)
  exact endR_rng (fun y hy => (hg.sz (rec_typ hg ha (List.mem_of_mem_take hy))).1) ⟨hb.1, by omega⟩
theorem RR_zero : RR t a 0 = szF t (tyAt t a).base := rfl
theorem RR_succ {i : Nat} (hi : i < (tyAt t a).fields.length) : RR t a (i + 1) = min (fAt t a i + szF t ((typsL t a).getD i 0)) 32772 := by
  rw [RR, getD_take (d := 0) (by rw [typsL_len]; exact hi), endR_app]; rfl
theorem RR_mono {i j : Nat} (hij : i ≤ j) : RR t a i ≤ RR t a j := by
  have e : RR t a j = endR t (szF t) (RR t a i) (((typsL t a).take j).drop i) := by
    have h1 : (typsL t a).take i = ((typsL t a).take j).take i := by rw [List.take_take, Nat.min_eq_left hij]
    rw [RR, RR, endR, endR, endR, ← List.foldl_append, h1, List.take_append_drop]
  have h0 := RR_rng hg ha i
  have hb := hg.sz (rec_base hg ha)
  rw [e]
  exact (endR_rng (fun y hy => (hg.sz (rec_typ hg ha (List.mem_of_mem_take (List.mem_of_mem_drop hy)))).1) ⟨by omega, by omega⟩).1
theorem sz_RR : szF t a = cutI (upI (RR t a (tyAt t a).fields.length)) := by
  rw [hg.sz_rec ⟨ha.1, ha.2.1⟩ ha.2.2, RR, ← typsL_len, List.take_length]; rfl
theorem base_le : szF t (tyAt t a).base ≤ szF t a := by
  have h1 := RR_rng hg ha (tyAt t a).fields.length
  have hb := hg.sz (rec_base hg ha)
  rw [sz_RR hg ha]
  unfold cutI upI; omega
variable (hsm : szF t a ≤ 32768)
include hsm
theorem sz_up : szF t a = upI (RR t a (tyAt t a).fields.length) ∧ RR t a (tyAt t a).fields.length ≤ 32768 := by
  have h1 := RR_rng hg ha (tyAt t a).fields.length
  have hb := hg.sz (rec_base hg ha)
  have e := sz_RR hg ha
  rw [e] at hsm
  have : upI (RR t a (tyAt t a).fields.length) ≤ 32768 := by unfold cutI at hsm; omega
  refine ⟨by rw [e]; unfold cutI; omega, by unfold upI at this; omega⟩
theorem RR_le {i : Nat} (hi : i ≤ (tyAt t a).fields.length) : RR t a i ≤ 32768 := by
  have h1 := RR_mono hg ha hi
  have h2 := (sz_up hg ha hsm).2
  omega
theorem RR_step {i : Nat} (hi : i < (tyAt t a).fields.length) : RR t a (i + 1) = fAt t a i + szF t ((typsL t a).getD i 0) := by
  have h1 := RR_le hg ha hsm (i := i + 1) (by omega)
  have h2 := RR_succ hg ha hi
  omega
/-- The program's own reckoning is the same here. -/
theorem endI_RR {i : Nat} (hi : i ≤ (tyAt t a).fields.length) : endI t (szF t) (szF t (tyAt t a).base) ((typsL t a).take i) = RR t a i := by
  have hb := hg.sz (rec_base hg ha)
  have := end_cut (t := t) (g := szF t) (l := (typsL t a).take i) (n := szF t (tyAt t a).base) (fun y hy => (hg.sz (rec_typ hg ha (List.mem_of_mem_take hy))).1) hb.1
  rw [show cutI (szF t (tyAt t a).base) = szF t (tyAt t a).base by unfold cutI; omega] at this
  rw [this]
  have := RR_le hg ha hsm hi
  show cutI (RR t a i) = RR t a i
  unfold cutI; omega
end
theorem chain_small {t : List Ty} (hg : GoodP t) : ∀ {n : Nat} {a : Int}, RecIn t a → ∀ c ∈ chain t n a, szF t c ≤ szF t a
  | 0, a, ha, c, hc => by simp [chain] at hc; subst hc; omega
  | n + 1, a, ha, c, hc => by
    simp only [chain, List.mem_cons] at hc
    rcases hc with rfl | hc
    · omega
    · split at hc
      · simp at hc
      · rename_i hb
        rcases hg.base ha with h1 | h1
        · exact absurd h1 hb
        · have := chain_small hg h1 c hc
          have := base_le hg ha
          omega
open Classical in
noncomputable def offF (t : List Ty) (a : Int) (s : ByteArray) : Int × Int × Bool := if GoodP t ∧ RecIn t a ∧ szF t a ≤ 32768 then offL t s (chain t 5 a) else (0, 0, false)
end Go.Proofs.Ytlhpcccffmfopaa

/- tables.Sizer. -/
namespace Go.Proofs.Ytlhpcccffmfopaa
set_option linter.unusedVariables false
set_option linter.unusedSimpArgs false
set_option linter.unusedSectionVars false
set_option linter.unusedSimpArgs false
set_option linter.unusedVariables false
set_option maxRecDepth 20000
set_option maxHeartbeats 4000000
open Go.RowKit

theorem up_c {n : Int} (h0 : 0 ≤ n) (h1 : n ≤ 1000000000) (H : List ABlk) : ACalls Try.prog 65 [iv n] H fun v H' => v = iv (upI n) ∧ H' = H := by
  refine ACalls.into Try.func65 cc65 rr65 fun hcl => ?_
  simp (maxSteps := 2000000) (disch := omega) only [Try.ntmps65, c65, r65, go_sem, eq_self, if_true, if_false, reduceCtorEq, Int.reduceToNat, Int.reducePow, Nat.reducePow, Nat.reduceMul, Int.reduceLT, Int.reduceLE, Nat.reduceAdd, Nat.reduceLeDiff, Nat.reduceBEq, Nat.reduceSub, Int.reduceSub, Int.reduceMul, Int.reduceNeg, Int.reduceAdd]
  exact Ret.keep ⟨rfl, rfl⟩
theorem cut_c (n : Int) (H : List ABlk) : ACalls Try.prog 66 [iv n] H fun v H' => v = iv (cutI n) ∧ H' = H := by
  refine ACalls.into Try.func66 cc66 rr66 fun hcl => ?_
  simp (maxSteps := 2000000) (disch := omega) only [Try.ntmps66, c66, r66, go_sem, eq_self, if_true, if_false, reduceCtorEq, Int.reduceToNat, Int.reducePow, Nat.reducePow, Nat.reduceMul, Int.reduceLT, Int.reduceLE, Nat.reduceAdd, Nat.reduceLeDiff, Nat.reduceBEq, Nat.reduceSub, Int.reduceSub, Int.reduceMul, Int.reduceNeg, Int.reduceAdd]
  exact Ret.keep ⟨rfl, rfl⟩
abbrev szB (t : List Ty) (m : List Int) : ABlk := .cells (tv t :: m.map iv)
def SizeK (t : List Ty) (a : Int) : Prop := ∀ (m : List Int) (H : List ABlk) (b : Nat), m.length = 256 → MOk t (KZ t) m → H[b]? = some (szB t m) →
  ACalls Try.prog 44 [.ptr b 0, iv a] H fun v H' => v = iv (szF t a) ∧ H' = H.set b (szB t (updM t (KZ t) m a))
theorem place_s {t : List Ty} (ht : TT t) (hg : GoodP t) {a : Int} (ha : placeP t a) (hk : SizeK t a) {n : Int} (n0 : 0 ≤ n) (n1 : n ≤ 1000000) {m : List Int} {H : List ABlk} {b : Nat} (hm : m.length = 256) (hmo : MOk t (KZ t) m) (hb : H[b]? = some (szB t m)) :
    ACalls Try.prog 50 [.ptr b 0, iv n, iv a] H fun v H' => v = .tup [iv (atI t n a), iv (cutI (atI t n a + szF t a))] ∧ H' = H.set b (szB t (updM t (KZ t) m a)) := by
  have hsz := hg.sz ha
  have hat := at_ge t a n0
  have hu := up_c n0 (by omega)
  have iax := iaA_ty ha.1 ha.2
  refine ACalls.into Try.func50 cc50 rr50 fun hcl => ?_
  simp (maxSteps := 2000000) (disch := omega) only [Try.ntmps50, c50, r50, hb, iax, Ty.c, go_sem, eq_self, if_true, if_false, reduceCtorEq, Int.reduceToNat, Int.reducePow, Nat.reducePow, Nat.reduceMul, Int.reduceLT, Int.reduceLE, Nat.reduceAdd, Nat.reduceLeDiff, Nat.reduceBEq, Nat.reduceSub, Int.reduceSub, Int.reduceMul, Int.reduceNeg, Int.reduceAdd]
  have e23 : (tyAt t a).form = 2 ∨ (tyAt t a).form = 3 → atI t n a = n := fun h => if_pos h
  have e0 : ¬ ((tyAt t a).form = 2 ∨ (tyAt t a).form = 3) → atI t n a = upI n := fun h => if_neg h
  have hk' := hk m H b hm hmo hb
  generalize (tyAt t a).form = f at *
  by_cases f2 : f = 2
  · have e := e23 (.inl f2)
    rw [e]
    simp (maxSteps := 2000000) (disch := omega) only [go_sem, eq_self, if_true, if_false, reduceCtorEq, Int.reduceToNat, Int.reducePow, Nat.reducePow, Nat.reduceMul, Int.reduceLT, Int.reduceLE, Nat.reduceAdd, Nat.reduceLeDiff, Nat.reduceBEq, Nat.reduceSub, Int.reduceSub, Int.reduceMul, Int.reduceNeg, Int.reduceAdd]
    refine Cont.mk hk' ?_
    simp (maxSteps := 2000000) (disch := omega) only [go_sem, eq_self, if_true, if_false, reduceCtorEq, Int.reduceToNat, Int.reducePow, Nat.reducePow, Nat.reduceMul, Int.reduceLT, Int.reduceLE, Nat.reduceAdd, Nat.reduceLeDiff, Nat.reduceBEq, Nat.reduceSub, Int.reduceSub, Int.reduceMul, Int.reduceNeg, Int.reduceAdd]
    refine Cont.mk (cut_c _ _) ?_
    simp (maxSteps := 2000000) (disch := omega) only [go_sem, eq_self, if_true, if_false, reduceCtorEq, Int.reduceToNat, Int.reducePow, Nat.reducePow, Nat.reduceMul, Int.reduceLT, Int.reduceLE, Nat.reduceAdd, Nat.reduceLeDiff, Nat.reduceBEq, Nat.reduceSub, Int.reduceSub, Int.reduceMul, Int.reduceNeg, Int.reduceAdd]
    exact Ret.keep ⟨rfl, rfl⟩
  by_cases f3 : f = 3
  · have e := e23 (.inr f3)
    rw [e]
    simp (maxSteps := 2000000) (disch := omega) only [go_sem, eq_self, if_true, if_false, reduceCtorEq, Int.reduceToNat, Int.reducePow, Nat.reducePow, Nat.reduceMul, Int.reduceLT, Int.reduceLE, Nat.reduceAdd, Nat.reduceLeDiff, Nat.reduceBEq, Nat.reduceSub, Int.reduceSub, Int.reduceMul, Int.reduceNeg, Int.reduceAdd]
    refine Cont.mk hk' ?_
    simp (maxSteps := 2000000) (disch := omega) only [go_sem, eq_self, if_true, if_false, reduceCtorEq, Int.reduceToNat, Int.reducePow, Nat.reducePow, Nat.reduceMul, Int.reduceLT, Int.reduceLE, Nat.reduceAdd, Nat.reduceLeDiff, Nat.reduceBEq, Nat.reduceSub, Int.reduceSub, Int.reduceMul, Int.reduceNeg, Int.reduceAdd]
    refine Cont.mk (cut_c _ _) ?_
    simp (maxSteps := 2000000) (disch := omega) only [go_sem, eq_self, if_true, if_false, reduceCtorEq, Int.reduceToNat, Int.reducePow, Nat.reducePow, Nat.reduceMul, Int.reduceLT, Int.reduceLE, Nat.reduceAdd, Nat.reduceLeDiff, Nat.reduceBEq, Nat.reduceSub, Int.reduceSub, Int.reduceMul, Int.reduceNeg, Int.reduceAdd]
    exact Ret.keep ⟨rfl, rfl⟩
  have e := e0 (fun h => h.elim f2 f3)
  rw [e] at hat ⊢
  simp (maxSteps := 2000000) (disch := omega) only [go_sem, eq_self, if_true, if_false, reduceCtorEq, Int.reduceToNat, Int.reducePow, Nat.reducePow, Nat.reduceMul, Int.reduceLT, Int.reduceLE, Nat.reduceAdd, Nat.reduceLeDiff, Nat.reduceBEq, Nat.reduceSub, Int.reduceSub, Int.reduceMul, Int.reduceNeg, Int.reduceAdd]
  refine Cont.mk (hu _) ?_
  simp (maxSteps := 2000000) (disch := omega) only [go_sem, eq_self, if_true, if_false, reduceCtorEq, Int.reduceToNat, Int.reducePow, Nat.reducePow, Nat.reduceMul, Int.reduceLT, Int.reduceLE, Nat.reduceAdd, Nat.reduceLeDiff, Nat.reduceBEq, Nat.reduceSub, Int.reduceSub, Int.reduceMul, Int.reduceNeg, Int.reduceAdd]
  refine Cont.mk hk' ?_
  simp (maxSteps := 2000000) (disch := omega) only [go_sem, eq_self, if_true, if_false, reduceCtorEq, Int.reduceToNat, Int.reducePow, Nat.reducePow, Nat.reduceMul, Int.reduceLT, Int.reduceLE, Nat.reduceAdd, Nat.reduceLeDiff, Nat.reduceBEq, Nat.reduceSub, Int.reduceSub, Int.reduceMul, Int.reduceNeg, Int.reduceAdd]
  refine Cont.mk (cut_c _ _) ?_
  simp (maxSteps := 2000000) (disch := omega) only [go_sem, eq_self, if_true, if_false, reduceCtorEq, Int.reduceToNat, Int.reducePow, Nat.reducePow, Nat.reduceMul, Int.reduceLT, Int.reduceLE, Nat.reduceAdd, Nat.reduceLeDiff, Nat.reduceBEq, Nat.reduceSub, Int.reduceSub, Int.reduceMul, Int.reduceNeg, Int.reduceAdd]
  exact Ret.keep ⟨rfl, rfl⟩
theorem sz_take (t : List Ty) {m : List Int} {a : Int} (a0 : 0 ≤ a) (a1 : a.toNat < m.length) : List.take 1 (List.drop (1 + a.toNat) (tv t :: m.map iv)) = [iv (m.getD a.toNat 0)] := by
  rw [Nat.add_comm, List.drop_succ_cons, ← List.map_drop, List.drop_eq_getElem_cons a1, List.map_cons, List.take_succ_cons, List.take_zero, List.getD_eq_getElem?_getD, List.getElem?_eq_getElem a1]; rfl
theorem size_of {t : List Ty} {a : Int} (a0 : 0 ≤ a) (a1 : a < 256) (hrng : 0 ≤ szF t a ∧ szF t a ≤ 32769) (hs : ∀ (m : List Int) (H : List ABlk) (b : Nat), m.length = 256 → MOk t (KZ t) m → H[b]? = some (szB t m) →
    ACalls Try.prog 64 [.ptr b 0, iv a] H fun v H' => v = iv (szF t a) ∧ H' = H.set b (szB t ((KZ t a).foldl (updM t (KZ t)) m))) : SizeK t a := by
  intro m H b hm hmo hb
  have hi : 0 ≤ a ∧ a < ((256 : Nat) : Int) := ⟨a0, a1⟩
  have htk := sz_take t (m := m) a0 (by omega)
  have hbl := lt_of_at hb
  refine ACalls.into Try.func44 cc44 rr44 fun hcl => ?_
  simp (maxSteps := 2000000) (disch := omega) only [Try.ntmps44, c44, r44, hb, if_pos hi, htk, go_sem, eq_self, if_true, if_false, reduceCtorEq, Int.reduceToNat, Int.reducePow, Nat.reducePow, Nat.reduceMul, Int.reduceLT, Int.reduceLE, Nat.reduceAdd, Nat.reduceLeDiff, Nat.reduceBEq, Nat.reduceSub, Int.reduceSub, Int.reduceMul, Int.reduceNeg, Int.reduceAdd]
  by_cases hz : m.getD a.toNat 0 = 0
  · have kz := feq hz
    simp (maxSteps := 2000000) (disch := omega) only [hz, go_sem, eq_self, if_true, if_false, reduceCtorEq, Int.reduceToNat, Int.reducePow, Nat.reducePow, Nat.reduceMul, Int.reduceLT, Int.reduceLE, Nat.reduceAdd, Nat.reduceLeDiff, Nat.reduceBEq, Nat.reduceSub, Int.reduceSub, Int.reduceMul, Int.reduceNeg, Int.reduceAdd]
    have hbd : H[b]? ≠ some .dead := by rw [hb]; exact fun e => by cases e
    refine W.dregD [([], [b]), ([], [b]), ([], []), ([], []), ([b], []), ([], []), ([], [b]), ([], [b]), ([], []), ([b], [])] follows (by decide +kernel) rfl rfl (fun z hz b' hb' => ?_) ?_
    · simp only [List.mem_cons, List.not_mem_nil, or_false] at hz
      rcases hz with rfl | rfl | rfl | rfl | rfl | rfl | rfl | rfl | rfl | rfl <;> simp at hb' <;> subst hb' <;> exact ⟨by simp, hbd⟩
    repeat (rw [DC_p]; simp (maxSteps := 2000000) (disch := omega) only [kill_c, go_sem, eq_self, if_true, if_false, reduceCtorEq, Int.reduceToNat, Int.reducePow, Nat.reducePow, Nat.reduceMul, Int.reduceLT, Int.reduceLE, Nat.reduceAdd, Nat.reduceLeDiff, Nat.reduceBEq, Nat.reduceSub, Int.reduceSub, Int.reduceMul, Int.reduceNeg, Int.reduceAdd])
    refine WStep.call (hs m H b hm hmo hb) (fun c hc => List.getElem?_set_ne (fun e => hc (by simp [e]))) (by simp) ?_
    repeat (rw [DC_p]; simp (maxSteps := 2000000) (disch := omega) only [kill_c, if_pos hi, go_sem, eq_self, if_true, if_false, reduceCtorEq, Int.reduceToNat, Int.reducePow, Nat.reducePow, Nat.reduceMul, Int.reduceLT, Int.reduceLE, Nat.reduceAdd, Nat.reduceLeDiff, Nat.reduceBEq, Nat.reduceSub, Int.reduceSub, Int.reduceMul, Int.reduceNeg, Int.reduceAdd])
    obtain ⟨F, hF⟩ : ∃ F, F = (KZ t a).foldl (updM t (KZ t)) m := ⟨_, rfl⟩
    have hFl : F.length = 256 := by rw [hF, fold_len]; exact hm
    have hFn : F.set a.toNat (szF t a + 1) = updM t (KZ t) m a := by rw [hF]; exact updM_new a0 (by omega)
    have hb1 : ∀ x, (H.set b x)[b]? = some x := fun x => List.getElem?_set_self hbl
    rw [← hF]
    have hsp : List.take (1 + a.toNat) (tv t :: F.map iv) ++ iv (szF t a + 1) :: List.drop (1 + a.toNat) (F.map iv) = tv t :: (updM t (KZ t) m a).map iv := by
      rw [← hFn, Nat.add_comm, List.take_succ_cons, List.cons_append, ← List.map_take, ← List.map_drop, List.set_eq_take_append_cons_drop, if_pos (by omega), List.map_append, List.map_cons]
    have hss : ∀ x y : ABlk, (H.set b x).set b y = H.set b y := fun x y => List.set_set ..
    have htk2 := sz_take t (m := updM t (KZ t) m a) a0 (by rw [updM_len]; omega)
    have hval : (updM t (KZ t) m a).getD a.toNat 0 = szF t a + 1 := by
      rw [(updM_at (by omega)).1 (by rw [show ((a.toNat : Nat) : Int) = a by omega]; exact .refl _), show ((a.toNat : Nat) : Int) = a by omega]
    rw [hval] at htk2
    have hul : (updM t (KZ t) m a).length = 256 := by rw [updM_len]; exact hm
    refine WStep.ev (by simp) (by simp) ?_
    simp (maxSteps := 2000000) (disch := omega) only [hb1, hsp, hss, go_sem, eq_self, if_true, if_false, reduceCtorEq, Int.reduceToNat, Int.reducePow, Nat.reducePow, Nat.reduceMul, Int.reduceLT, Int.reduceLE, Nat.reduceAdd, Nat.reduceLeDiff, Nat.reduceBEq, Nat.reduceSub, Int.reduceSub, Int.reduceMul, Int.reduceNeg, Int.reduceAdd]
    refine ⟨FrOk.at_ b (szB t (updM t (KZ t) m a)) (by simp) (hss _ _).symm, ?_⟩
    simp (maxSteps := 2000000) (disch := omega) only [hb1, if_pos hi, htk2, go_sem, eq_self, if_true, if_false, reduceCtorEq, Int.reduceToNat, Int.reducePow, Nat.reducePow, Nat.reduceMul, Int.reduceLT, Int.reduceLE, Nat.reduceAdd, Nat.reduceLeDiff, Nat.reduceBEq, Nat.reduceSub, Int.reduceSub, Int.reduceMul, Int.reduceNeg, Int.reduceAdd]
    exact Ret.keep ⟨by rw [Int.add_sub_cancel], rfl⟩
  · have kz := fne hz
    rw [updM_id hmo a0 hz, put_self hb]
    rcases hmo.val a.toNat with h | h
    · exact absurd h hz
    rw [show ((a.toNat : Nat) : Int) = a by omega] at h
    simp (maxSteps := 2000000) (disch := omega) only [kz, h, hb, if_pos hi, htk, go_sem, eq_self, if_true, if_false, reduceCtorEq, Int.reduceToNat, Int.reducePow, Nat.reducePow, Nat.reduceMul, Int.reduceLT, Int.reduceLE, Nat.reduceAdd, Nat.reduceLeDiff, Nat.reduceBEq, Nat.reduceSub, Int.reduceSub, Int.reduceMul, Int.reduceNeg, Int.reduceAdd]
    exact Ret.keep ⟨by rw [Int.add_sub_cancel], rfl⟩
end Go.Proofs.Ytlhpcccffmfopaa

/- tables.Sizer.size. -/
namespace Go.Proofs.Ytlhpcccffmfopaa
set_option linter.unusedVariables false
set_option linter.unusedSimpArgs false
set_option linter.unusedSectionVars false
set_option linter.unusedSimpArgs false
set_option linter.unusedVariables false
set_option maxRecDepth 20000
set_option maxHeartbeats 4000000
open Go.RowKit

theorem cl.put {H : List ABlk} (h : cl H) {b : Nat} {x : ABlk} (hx : x.refs = []) : cl (H.set b x) := fun c k hk r hr => by
  rw [List.length_set]
  by_cases e : b = c
  · subst e
    by_cases hl : b < H.length
    · rw [List.getElem?_set_self hl] at hk
      cases hk
      rw [hx] at hr; cases hr
    · rw [List.getElem?_eq_none (by rw [List.length_set]; omega)] at hk; cases hk
  · rw [List.getElem?_set_ne e] at hk
    exact h c k hk r hr
theorem refsL_iv : ∀ m : List Int, refs.refsL (m.map iv) = []
  | [] => rfl
  | n :: m => by simp only [List.map_cons, refs.refsL, refsL_iv m]; rfl
theorem szB_refs (t : List Ty) (m : List Int) : (szB t m).refs = [] := by
  simp only [ABlk.refs, refs.refsL, refsL_iv]; rfl
theorem size_c {t : List Ty} (ht : TT t) (hg : GoodP t) {a : Int} (ha : placeP t a) (hac : Acc (LZ t) a) (hk : ∀ y ∈ KZ t a, SizeK t y) {m : List Int} {H : List ABlk} {b : Nat} (hm : m.length = 256) (hmo : MOk t (KZ t) m) (hb : H[b]? = some (szB t m)) :
    ACalls Try.prog 64 [.ptr b 0, iv a] H fun v H' => v = iv (szF t a) ∧ H' = H.set b (szB t ((KZ t a).foldl (updM t (KZ t)) m)) := by
  have hpl : ∀ y ∈ KZ t a, placeP t y := fun y hy => hg.kidZ ha hy
  have hlen := hg.len7 ha
  have hfl := (ht.s.2 _ (tyAt_mem ha.1 ha.2)).1
  have hbl := lt_of_at hb
  have hsame := put_self hb
  rw [szF_eq hac]
  unfold szG
  have hK : KZ t a = if (tyAt t a).form = 7 then [(tyAt t a).elem] else if (tyAt t a).form = 9 then (tyAt t a).base :: (tyAt t a).fields.map Fd.typ else [] := rfl
  rw [hK] at hk hpl ⊢
  clear hK hac
  refine ACalls.into Try.func64 cc64 rr64 fun hcl => ?_
  have iax := iaA_ty ha.1 ha.2
  have hcS : ∀ F, cl (H.set b (szB t F)) := fun F => hcl.put (szB_refs t F)
  generalize tyAt t a = x at *
  by_cases f4 : x.form = 1 ∨ x.form = 4 ∨ x.form = 10 ∨ x.form = 11
  · rw [if_pos f4, if_neg (by omega), if_neg (by omega)]
    simp only [List.foldl_nil, hsame]
    rcases f4 with f | f | f | f <;> (
      simp (maxSteps := 2000000) (disch := omega) only [Try.ntmps64, c64, r64, hb, iax, Ty.c, f, go_sem, eq_self, if_true, if_false, reduceCtorEq, Int.reduceToNat, Int.reducePow, Nat.reducePow, Nat.reduceMul, Int.reduceLT, Int.reduceLE, Nat.reduceAdd, Nat.reduceLeDiff, Nat.reduceBEq, Nat.reduceSub, Int.reduceSub, Int.reduceMul, Int.reduceNeg, Int.reduceAdd]
      exact Ret.drop _ H (Nat.le_refl _) hcl (.rfl _) (by simp [refs]) ⟨rfl, rfl⟩)
  rw [if_neg f4]
  have g1 : x.form ≠ 1 ∧ x.form ≠ 4 ∧ x.form ≠ 10 ∧ x.form ≠ 11 := by omega
  by_cases f1 : x.form = 2 ∨ x.form = 3
  · rw [if_pos f1, if_neg (by omega), if_neg (by omega)]
    simp only [List.foldl_nil, hsame]
    rcases f1 with f | f <;> (
      simp (maxSteps := 2000000) (disch := omega) only [Try.ntmps64, c64, r64, hb, iax, Ty.c, f, go_sem, eq_self, if_true, if_false, reduceCtorEq, Int.reduceToNat, Int.reducePow, Nat.reducePow, Nat.reduceMul, Int.reduceLT, Int.reduceLE, Nat.reduceAdd, Nat.reduceLeDiff, Nat.reduceBEq, Nat.reduceSub, Int.reduceSub, Int.reduceMul, Int.reduceNeg, Int.reduceAdd]
      exact Ret.drop _ H (Nat.le_refl _) hcl (.rfl _) (by simp [refs]) ⟨rfl, rfl⟩)
  rw [if_neg f1]
  have g2 : x.form ≠ 2 ∧ x.form ≠ 3 := by omega
  by_cases f7 : x.form = 7
  · simp only [if_pos f7] at hk hpl ⊢
    have hy := hpl x.elem (by simp)
    have hsz := hg.sz hy
    obtain ⟨l1, l2⟩ := hlen f7
    have hky := hk x.elem (by simp) m
    have hmul : 0 ≤ x.len * szF t x.elem := Int.mul_nonneg (by omega) hsz.1
    have hmul2 : x.len * szF t x.elem ≤ 4096 * 32769 := Int.mul_le_mul l2 hsz.2 hsz.1 (by decide)
    simp only [List.foldl_cons, List.foldl_nil]
    generalize szF t x.elem = z at *
    have hbd : ∀ l, (H ++ l)[b]? ≠ some .dead := fun l => by rw [at_app hb]; exact fun e => by cases e
    have hkl : ∀ l x, (H ++ l).set b x = H.set b x ++ l := fun l x => set_app hb x l
    have hll : ∀ x, (H.set b x).length = H.length := fun x => List.length_set
    have hq : ∀ x c l, (H.set b x ++ (c :: l))[H.length]? = some c := fun x c l => by rw [List.getElem?_append_right (by rw [hll]; exact Nat.le_refl _), hll]; simp
    simp (maxSteps := 2000000) (disch := omega) only [Try.ntmps64, c64, r64, hb, iax, Ty.c, f7, go_sem, eq_self, if_true, if_false, reduceCtorEq, Int.reduceToNat, Int.reducePow, Nat.reducePow, Nat.reduceMul, Int.reduceLT, Int.reduceLE, Nat.reduceAdd, Nat.reduceLeDiff, Nat.reduceBEq, Nat.reduceSub, Int.reduceSub, Int.reduceMul, Int.reduceNeg, Int.reduceAdd]
    refine W.dregD [([], [b]), ([], [b]), ([], []), ([], []), ([], []), ([b], []), ([], []), ([], []), ([], []), ([], [])] follows (by decide +kernel) rfl rfl (fun z hz b' hb' => ?_) ?_
    · simp only [List.mem_cons, List.not_mem_nil, or_false] at hz
      rcases hz with rfl | rfl | rfl | rfl | rfl | rfl | rfl | rfl | rfl | rfl <;> simp at hb' <;> subst hb' <;> exact ⟨by simp, hbd _⟩
    repeat (rw [DC_p]; simp (maxSteps := 2000000) (disch := omega) only [kill_c, hkl, hq, go_sem, eq_self, if_true, if_false, reduceCtorEq, Int.reduceToNat, Int.reducePow, Nat.reducePow, Nat.reduceMul, Int.reduceLT, Int.reduceLE, Nat.reduceAdd, Nat.reduceLeDiff, Nat.reduceBEq, Nat.reduceSub, Int.reduceSub, Int.reduceMul, Int.reduceNeg, Int.reduceAdd])
    refine WStep.call (hky _ b hm hmo (at_app hb _)) (fun c hc => List.getElem?_set_ne (fun e => hc (by simp [e]))) (by simp) ?_
    repeat (rw [DC_p]; simp (maxSteps := 2000000) (disch := omega) only [kill_c, hkl, hq, go_sem, eq_self, if_true, if_false, reduceCtorEq, Int.reduceToNat, Int.reducePow, Nat.reducePow, Nat.reduceMul, Int.reduceLT, Int.reduceLE, Nat.reduceAdd, Nat.reduceLeDiff, Nat.reduceBEq, Nat.reduceSub, Int.reduceSub, Int.reduceMul, Int.reduceNeg, Int.reduceAdd])
    refine PCont.mk (up_c hmul (by omega) _) ?_
    simp (maxSteps := 2000000) (disch := omega) only [go_sem, eq_self, if_true, if_false, reduceCtorEq, Int.reduceToNat, Int.reducePow, Nat.reducePow, Nat.reduceMul, Int.reduceLT, Int.reduceLE, Nat.reduceAdd, Nat.reduceLeDiff, Nat.reduceBEq, Nat.reduceSub, Int.reduceSub, Int.reduceMul, Int.reduceNeg, Int.reduceAdd]
    repeat (rw [DC_p]; simp (maxSteps := 2000000) (disch := omega) only [go_sem, eq_self, if_true, if_false, reduceCtorEq, Int.reduceToNat, Int.reducePow, Nat.reducePow, Nat.reduceMul, Int.reduceLT, Int.reduceLE, Nat.reduceAdd, Nat.reduceLeDiff, Nat.reduceBEq, Nat.reduceSub, Int.reduceSub, Int.reduceMul, Int.reduceNeg, Int.reduceAdd])
    refine PCont.mk (cut_c _ _) ?_
    simp (maxSteps := 2000000) (disch := omega) only [go_sem, eq_self, if_true, if_false, reduceCtorEq, Int.reduceToNat, Int.reducePow, Nat.reducePow, Nat.reduceMul, Int.reduceLT, Int.reduceLE, Nat.reduceAdd, Nat.reduceLeDiff, Nat.reduceBEq, Nat.reduceSub, Int.reduceSub, Int.reduceMul, Int.reduceNeg, Int.reduceAdd]
    repeat (rw [DC_p]; simp (maxSteps := 2000000) (disch := omega) only [go_sem, eq_self, if_true, if_false, reduceCtorEq, Int.reduceToNat, Int.reducePow, Nat.reducePow, Nat.reduceMul, Int.reduceLT, Int.reduceLE, Nat.reduceAdd, Nat.reduceLeDiff, Nat.reduceBEq, Nat.reduceSub, Int.reduceSub, Int.reduceMul, Int.reduceNeg, Int.reduceAdd])
    exact Ret.drop _ (H.set b _) (by simp) (hcS _) (.rfl _) (by simp [refs]) ⟨rfl, rfl⟩
  simp only [if_neg f7] at hk hpl ⊢
  by_cases f9 : x.form = 9
  rotate_left
  · simp only [if_neg f9] at hk hpl ⊢
    simp only [List.foldl_nil, hsame]
    simp (maxSteps := 2000000) (disch := omega) only [Try.ntmps64, c64, r64, hb, iax, Ty.c, go_sem, eq_self, if_true, if_false, reduceCtorEq, Int.reduceToNat, Int.reducePow, Nat.reducePow, Nat.reduceMul, Int.reduceLT, Int.reduceLE, Nat.reduceAdd, Nat.reduceLeDiff, Nat.reduceBEq, Nat.reduceSub, Int.reduceSub, Int.reduceMul, Int.reduceNeg, Int.reduceAdd]
    exact Ret.drop _ H (Nat.le_refl _) hcl (.rfl _) (by simp [refs]) ⟨rfl, rfl⟩
  simp only [if_pos f9] at hk hpl ⊢
  have hpb := hpl x.base (by simp)
  have hzb := hg.sz hpb
  have hkb := hk x.base (by simp) m
  obtain ⟨fs, hfs⟩ : ∃ fs, fs = x.fields.map Fd.typ := ⟨_, rfl⟩
  have hfsl : fs.length = x.fields.length := by rw [hfs, List.length_map]
  have hfi : ∀ i, i < x.fields.length → (x.fields.getD i default).typ = fs.getD i 0 := fun i hi => by
    rw [hfs, List.getD_eq_getElem?_getD, List.getD_eq_getElem?_getD, List.getElem?_map, List.getElem?_eq_getElem hi]; rfl
  rw [← hfs] at hk hpl ⊢
  have hz0 : ∀ y ∈ fs, 0 ≤ szF t y := fun y hy => (hg.sz (hpl y (by simp [hy]))).1
  obtain ⟨M, hM⟩ : ∃ M : Nat → List Int, ∀ i, M i = (fs.take i).foldl (updM t (KZ t)) (updM t (KZ t) m x.base) := ⟨_, fun _ => rfl⟩
  obtain ⟨N, hN⟩ : ∃ N : Nat → Int, ∀ i, N i = endI t (szF t) (szF t x.base) (fs.take i) := ⟨_, fun _ => rfl⟩
  have hKin : InK (KZ t) t.length := fun a h0 h1 y hy => hg.kidZ ⟨h0, h1⟩ hy
  have hsz0 : ∀ c : Int, 0 ≤ c → c < t.length → 0 ≤ szF t c := fun c h0 h1 => (hg.sz ⟨h0, h1⟩).1
  have htl := hg.len.2
  have hMl : ∀ i, (M i).length = 256 := fun i => by rw [hM, fold_len, updM_len]; exact hm
  have hM1 : MOk t (KZ t) (updM t (KZ t) m x.base) := hmo.upd hKin (by omega) hpb.1 hpb.2 fun c hc => hsz0 c (hc.rng hKin hpb.1 hpb.2).1 (hc.rng hKin hpb.1 hpb.2).2
  have hMo : ∀ i, MOk t (KZ t) (M i) := fun i => by
    rw [hM]
    exact hM1.fold hKin hsz0 (by rw [updM_len]; omega) fun y hy => hpl y (by simp [List.mem_of_mem_take hy])
  have hNr : ∀ i, 0 ≤ N i ∧ N i ≤ 32769 := fun i => by
    rw [hN]; exact end_rng (fun y hy => hz0 y (List.mem_of_mem_take hy)) hzb
  have hN0 : N 0 = szF t x.base := by rw [hN]; rfl
  have hM0 : M 0 = updM t (KZ t) m x.base := by rw [hM]; rfl
  have hNs : ∀ i, i < fs.length → N (i + 1) = cutI (atI t (N i) (fs.getD i 0) + szF t (fs.getD i 0)) := fun i hi => by
    rw [hN, hN, getD_take (d := 0) hi, endI, List.foldl_append]; rfl
  have hMs : ∀ i, i < fs.length → M (i + 1) = updM t (KZ t) (M i) (fs.getD i 0) := fun i hi => by
    rw [hM, hM, getD_take (d := 0) hi, List.foldl_append]; rfl
  have hNl : N fs.length = endI t (szF t) (szF t x.base) fs := by rw [hN, List.take_length]
  have hMl2 : M fs.length = (x.base :: fs).foldl (updM t (KZ t)) m := by rw [hM, List.take_length]; rfl
  rw [← hNl, ← hMl2]
  have hmem : ∀ i, i < fs.length → fs.getD i 0 ∈ fs := fun i hi => by rw [List.getD_eq_getElem?_getD, List.getElem?_eq_getElem hi]; exact List.getElem_mem _
  have hkl : ∀ l x, (H ++ l).set b x = H.set b x ++ l := fun l x => set_app hb x l
  obtain ⟨G, hG⟩ : ∃ G : Nat → List ABlk, ∀ i, G i = H.set b (szB t (M i)) := ⟨_, fun _ => rfl⟩
  have hGl : ∀ i, (G i).length = H.length := fun i => by rw [hG, List.length_set]
  have hGb : ∀ i l, (G i ++ l)[b]? = some (szB t (M i)) := fun i l => at_app (by rw [hG, List.getElem?_set_self hbl]) l
  have hGs : ∀ i l y, (G i ++ l).set b (szB t (M y)) = G y ++ l := fun i l y => by
    rw [List.set_append_left _ _ (by rw [hGl]; exact hbl), hG, hG, List.set_set]
  have hGc : ∀ i, cl (G i) := fun i => by rw [hG]; exact hcS _
  have hG0 : H.set b (szB t (updM t (KZ t) m x.base)) = G 0 := by rw [hG, hM0]
  have hq : ∀ i c l, (G i ++ (c :: l))[H.length]? = some c := fun i c l => by rw [List.getElem?_append_right (by rw [hGl]; exact Nat.le_refl _), hGl]; simp
  have hq1 : ∀ i c d l, (G i ++ (c :: d :: l))[H.length + 1]? = some d := fun i c d l => by rw [List.getElem?_append_right (by rw [hGl]; omega), hGl]; simp
  simp (maxSteps := 2000000) (disch := omega) only [Try.ntmps64, c64, r64, hb, iax, Ty.c, f9, go_sem, eq_self, if_true, if_false, reduceCtorEq, Int.reduceToNat, Int.reducePow, Nat.reducePow, Nat.reduceMul, Int.reduceLT, Int.reduceLE, Nat.reduceAdd, Nat.reduceLeDiff, Nat.reduceBEq, Nat.reduceSub, Int.reduceSub, Int.reduceMul, Int.reduceNeg, Int.reduceAdd]
  refine Cont.mk (hkb _ b hm hmo (at_app hb _)) ?_
  rw [hkl, hG0, ← hN0]
  simp (maxSteps := 2000000) (disch := omega) only [hq, List.length_map, go_sem, eq_self, if_true, if_false, reduceCtorEq, Int.reduceToNat, Int.reducePow, Nat.reducePow, Nat.reduceMul, Int.reduceLT, Int.reduceLE, Nat.reduceAdd, Nat.reduceLeDiff, Nat.reduceBEq, Nat.reduceSub, Int.reduceSub, Int.reduceMul, Int.reduceNeg, Int.reduceAdd]
  have e9 : x.cs = [iv 9, sv x.mod, sv x.name, iv x.len, iv x.elem, iv x.base, fdv x.fields, pmv x.params, iv x.result, iv x.desc] := by rw [Ty.cs, f9]
  obtain ⟨S, hS⟩ : ∃ S : Nat → List AV, ∀ i, S i = [.ptr b 0, .any, .any, .any, .any, .ptr H.length 0, iv (N i)] ++ List.replicate 37 .any ++ [fdv x.fields, iv x.fields.length, iv i] ++ List.replicate 15 .any := ⟨_, fun _ => rfl⟩
  refine W.loopG (γ := Nat) (fun i => x.fields.length - i) S (fun i => G i ++ [.cells x.cs]) (fun i => i ≤ x.fields.length) 0 (by rw [hS, e9]; exact Wk.slots (by (try simp only [List.replicate, List.cons_append, List.nil_append]); repeat' first | exact WkL.nil | refine WkL.cons (Wk1.rfl _) ?_ | refine WkL.cons Wk1.esl ?_ | refine WkL.cons (Wk1.gsl _ _ _) ?_ | refine WkL.cons (Wk1.any _) ?_)) (by omega) (fun i hi => ?_)
  simp only [hS]
  simp (maxSteps := 2000000) (disch := omega) only [c64l0, List.length_map, go_sem, eq_self, if_true, if_false, reduceCtorEq, Int.reduceToNat, Int.reducePow, Nat.reducePow, Nat.reduceMul, Int.reduceLT, Int.reduceLE, Nat.reduceAdd, Nat.reduceLeDiff, Nat.reduceBEq, Nat.reduceSub, Int.reduceSub, Int.reduceMul, Int.reduceNeg, Int.reduceAdd]
  refine Br.dec (fun hc => ?_) (fun hc => ?_) <;> simp (maxSteps := 2000000) (disch := omega) only [go_sem, eq_self, if_true, if_false, reduceCtorEq, Int.reduceToNat, Int.reducePow, Nat.reducePow, Nat.reduceMul, Int.reduceLT, Int.reduceLE, Nat.reduceAdd, Nat.reduceLeDiff, Nat.reduceBEq, Nat.reduceSub, Int.reduceSub, Int.reduceMul, Int.reduceNeg, Int.reduceAdd]
  · have hia := iaA_fd (t := x.fields) (a := (i : Int)) (by omega) (by omega)
    rw [fdAt, Int.toNat_natCast] at hia
    have hty := hfi i (by omega)
    have hms := hMs i (by omega)
    have hns := hNs i (by omega)
    have hmm := hmem i (by omega)
    generalize x.fields.getD i default = f at *
    generalize fs.getD i 0 = y at *
    obtain ⟨n1, n2⟩ := hNr i
    simp (maxSteps := 2000000) (disch := omega) only [hia, Fd.c, go_sem, eq_self, if_true, if_false, reduceCtorEq, Int.reduceToNat, Int.reducePow, Nat.reducePow, Nat.reduceMul, Int.reduceLT, Int.reduceLE, Nat.reduceAdd, Nat.reduceLeDiff, Nat.reduceBEq, Nat.reduceSub, Int.reduceSub, Int.reduceMul, Int.reduceNeg, Int.reduceAdd]
    rw [hty]
    refine Cont.mk (place_s ht hg (hpl y (by simp [hmm])) (hk y (by simp [hmm])) n1 (by omega) (hMl i) (hMo i) (hGb i _)) ?_
    rw [← hns, ← hms, hGs]
    simp (maxSteps := 2000000) (disch := omega) only [go_sem, eq_self, if_true, if_false, reduceCtorEq, Int.reduceToNat, Int.reducePow, Nat.reducePow, Nat.reduceMul, Int.reduceLT, Int.reduceLE, Nat.reduceAdd, Nat.reduceLeDiff, Nat.reduceBEq, Nat.reduceSub, Int.reduceSub, Int.reduceMul, Int.reduceNeg, Int.reduceAdd]
    rw [show ∀ (A : List ABlk) (p q : ABlk), A ++ [p, q] = (A ++ [p]) ++ [q] from fun A p q => by simp]
    refine Nxt.mk (i + 1) (by omega) (Wk.drop (by rw [hS]; exact (by (try simp only [List.replicate, List.cons_append, List.nil_append]); repeat' first | exact WkL.nil | refine WkL.cons (Wk1.rfl _) ?_ | refine WkL.cons Wk1.esl ?_ | refine WkL.cons (Wk1.gsl _ _ _) ?_ | refine WkL.cons (Wk1.any _) ?_)) (by simp [hGl]) ((hGc _).append fun k hk' r hr => ?_) (fun r hr => ?_)) (by omega)
    · simp only [List.mem_cons, List.not_mem_nil, or_false] at hk'
      subst hk'
      simp [ABlk.refs, refs.refsL, refs, Ty.cs] at hr
    · simp only [hS, refs, refs.refsL, List.replicate, List.cons_append, List.nil_append, List.append_nil, List.mem_cons, List.not_mem_nil, or_false, List.append_assoc] at hr
      simp only [List.length_append, hGl, List.length_cons, List.length_nil]
      rcases hr with rfl | rfl <;> omega
  · have ei : i = fs.length := by omega
    subst ei
    obtain ⟨n1, n2⟩ := hNr fs.length
    refine Cont.mk (up_c n1 (by omega) _) ?_
    simp (maxSteps := 2000000) (disch := omega) only [go_sem, eq_self, if_true, if_false, reduceCtorEq, Int.reduceToNat, Int.reducePow, Nat.reducePow, Nat.reduceMul, Int.reduceLT, Int.reduceLE, Nat.reduceAdd, Nat.reduceLeDiff, Nat.reduceBEq, Nat.reduceSub, Int.reduceSub, Int.reduceMul, Int.reduceNeg, Int.reduceAdd]
    refine Cont.mk (cut_c _ _) ?_
    simp (maxSteps := 2000000) (disch := omega) only [go_sem, eq_self, if_true, if_false, reduceCtorEq, Int.reduceToNat, Int.reducePow, Nat.reducePow, Nat.reduceMul, Int.reduceLT, Int.reduceLE, Nat.reduceAdd, Nat.reduceLeDiff, Nat.reduceBEq, Nat.reduceSub, Int.reduceSub, Int.reduceMul, Int.reduceNeg, Int.reduceAdd]
    rw [← hG]
    exact Ret.drop _ (G fs.length) (by rw [hGl]; exact Nat.le_refl _) (hGc _) (.rfl _) (by simp [refs]) ⟨rfl, rfl⟩
theorem size_k {t : List Ty} (ht : TT t) (hg : GoodP t) {a : Int} (hac : Acc (LZ t) a) : placeP t a → SizeK t a := by
  induction hac with
  | intro a hacc ih =>
  intro ha
  have hl := hg.len.2
  have h2 := ha.2
  exact size_of ha.1 (by omega) (hg.sz ha) fun m H b hm hmo hb => size_c ht hg ha ⟨a, hacc⟩ (fun y hy => ih y hy (hg.kidZ ha hy)) hm hmo hb
theorem GoodP.sizeK {t : List Ty} (hg : GoodP t) (ht : TT t) {a : Int} (ha : placeP t a) : SizeK t a := size_k ht hg (accZ (hg.acc _ ha.1 ha.2)) ha
end Go.Proofs.Ytlhpcccffmfopaa

/- layout.Size. -/
namespace Go.Proofs.Ytlhpcccffmfopaa
set_option linter.unusedVariables false
set_option linter.unusedSimpArgs false
set_option linter.unusedSectionVars false
set_option linter.unusedSimpArgs false
set_option linter.unusedVariables false
set_option maxRecDepth 20000
set_option maxHeartbeats 4000000
open Go.RowKit

abbrev sz0 : List Int := List.replicate 256 0
theorem sizer_t {t : List Ty} (ht : TT t) (hg : GoodP t) (H : List ABlk) : ACalls Try.prog 43 [tv t] H fun v H' => v = .ptr H.length 0 ∧ H' = H ++ [szB t sz0] := by
  refine ACalls.into Try.func43 cc43 rr43 fun hcl => ?_
  have hgd := tgood_c ht
  rw [good_t hg] at hgd
  simp (maxSteps := 2000000) (disch := omega) only [Try.ntmps43, c43, r43, go_sem, eq_self, if_true, if_false, reduceCtorEq, Int.reduceToNat, Int.reducePow, Nat.reducePow, Nat.reduceMul, Int.reduceLT, Int.reduceLE, Nat.reduceAdd, Nat.reduceLeDiff, Nat.reduceBEq, Nat.reduceSub, Int.reduceSub, Int.reduceMul, Int.reduceNeg, Int.reduceAdd]
  refine Cont.mk (hgd _) ?_
  simp (maxSteps := 2000000) (disch := omega) only [go_sem, eq_self, if_true, if_false, reduceCtorEq, Int.reduceToNat, Int.reducePow, Nat.reducePow, Nat.reduceMul, Int.reduceLT, Int.reduceLE, Nat.reduceAdd, Nat.reduceLeDiff, Nat.reduceBEq, Nat.reduceSub, Int.reduceSub, Int.reduceMul, Int.reduceNeg, Int.reduceAdd]
  exact Ret.keep ⟨rfl, rfl⟩
theorem sizer_f {t : List Ty} (ht : TT t) (hg : ¬ GoodP t) (H : List ABlk) : ACalls Try.prog 43 [tv t] H fun v H' => v = .nilp ∧ H' = H := by
  refine ACalls.into Try.func43 cc43 rr43 fun hcl => ?_
  have hgd := tgood_c ht
  rw [good_f hg] at hgd
  simp (maxSteps := 2000000) (disch := omega) only [Try.ntmps43, c43, r43, go_sem, eq_self, if_true, if_false, reduceCtorEq, Int.reduceToNat, Int.reducePow, Nat.reducePow, Nat.reduceMul, Int.reduceLT, Int.reduceLE, Nat.reduceAdd, Nat.reduceLeDiff, Nat.reduceBEq, Nat.reduceSub, Int.reduceSub, Int.reduceMul, Int.reduceNeg, Int.reduceAdd]
  refine Cont.mk (hgd _) ?_
  simp (maxSteps := 2000000) (disch := omega) only [go_sem, eq_self, if_true, if_false, reduceCtorEq, Int.reduceToNat, Int.reducePow, Nat.reducePow, Nat.reduceMul, Int.reduceLT, Int.reduceLE, Nat.reduceAdd, Nat.reduceLeDiff, Nat.reduceBEq, Nat.reduceSub, Int.reduceSub, Int.reduceMul, Int.reduceNeg, Int.reduceAdd]
  exact Ret.keep ⟨rfl, rfl⟩
open Classical in
noncomputable def szL (t : List Ty) (a : Int) : Int := if GoodP t ∧ placeP t a then szF t a else 0
theorem lsize_c {t : List Ty} (ht : TT t) (a : Int) (H : List ABlk) : ACalls Try.prog 26 [tv t, iv a] H fun v H' => v = iv (szL t a) ∧ H' = H := by
  refine ACalls.into Try.func26 cc26 rr26 fun hcl => ?_
  have fin : ∀ n, n = szL t a → ∀ l, Ret r26 H.length (fun v H' => v = iv (szL t a) ∧ H' = H) (some (iv n)) (H ++ l) := fun n e l => by
    rw [e]; exact Ret.drop _ H (Nat.le_refl _) hcl (.rfl _) (by simp [refs]) ⟨rfl, rfl⟩
  have htl := ht.s.1
  by_cases hg : GoodP t
  rotate_left
  · simp (maxSteps := 2000000) (disch := omega) only [Try.ntmps26, c26, r26, go_sem, eq_self, if_true, if_false, reduceCtorEq, Int.reduceToNat, Int.reducePow, Nat.reducePow, Nat.reduceMul, Int.reduceLT, Int.reduceLE, Nat.reduceAdd, Nat.reduceLeDiff, Nat.reduceBEq, Nat.reduceSub, Int.reduceSub, Int.reduceMul, Int.reduceNeg, Int.reduceAdd]
    refine Cont.mk (sizer_f ht hg _) ?_
    simp (maxSteps := 2000000) (disch := omega) only [go_sem, eq_self, if_true, if_false, reduceCtorEq, Int.reduceToNat, Int.reducePow, Nat.reducePow, Nat.reduceMul, Int.reduceLT, Int.reduceLE, Nat.reduceAdd, Nat.reduceLeDiff, Nat.reduceBEq, Nat.reduceSub, Int.reduceSub, Int.reduceMul, Int.reduceNeg, Int.reduceAdd]
    have := fin 0 (by rw [szL, if_neg fun h => hg h.1]) []
    rwa [List.append_nil] at this
  simp (maxSteps := 2000000) (disch := omega) only [Try.ntmps26, c26, r26, go_sem, eq_self, if_true, if_false, reduceCtorEq, Int.reduceToNat, Int.reducePow, Nat.reducePow, Nat.reduceMul, Int.reduceLT, Int.reduceLE, Nat.reduceAdd, Nat.reduceLeDiff, Nat.reduceBEq, Nat.reduceSub, Int.reduceSub, Int.reduceMul, Int.reduceNeg, Int.reduceAdd]
  refine Cont.mk (sizer_t ht hg _) ?_
  have no : ¬ placeP t a → (0 : Int) = szL t a := fun h => by rw [szL, if_neg fun k => h k.2]
  by_cases a0 : a < 0
  · simp (maxSteps := 2000000) (disch := omega) only [go_sem, eq_self, if_true, if_false, reduceCtorEq, Int.reduceToNat, Int.reducePow, Nat.reducePow, Nat.reduceMul, Int.reduceLT, Int.reduceLE, Nat.reduceAdd, Nat.reduceLeDiff, Nat.reduceBEq, Nat.reduceSub, Int.reduceSub, Int.reduceMul, Int.reduceNeg, Int.reduceAdd]
    exact fin 0 (no fun h => by have := h.1; omega) _
  by_cases a1 : a < t.length
  rotate_left
  · simp (maxSteps := 2000000) (disch := omega) only [List.length_map, go_sem, eq_self, if_true, if_false, reduceCtorEq, Int.reduceToNat, Int.reducePow, Nat.reducePow, Nat.reduceMul, Int.reduceLT, Int.reduceLE, Nat.reduceAdd, Nat.reduceLeDiff, Nat.reduceBEq, Nat.reduceSub, Int.reduceSub, Int.reduceMul, Int.reduceNeg, Int.reduceAdd]
    exact fin 0 (no fun h => a1 h.2) _
  have ha : placeP t a := ⟨by omega, a1⟩
  have hk := hg.sizeK ht ha sz0 (H ++ [szB t sz0]) H.length (by simp) (.zero _) (by rw [List.getElem?_append_right (Nat.le_refl _)]; simp)
  simp (maxSteps := 2000000) (disch := omega) only [List.length_map, go_sem, eq_self, if_true, if_false, reduceCtorEq, Int.reduceToNat, Int.reducePow, Nat.reducePow, Nat.reduceMul, Int.reduceLT, Int.reduceLE, Nat.reduceAdd, Nat.reduceLeDiff, Nat.reduceBEq, Nat.reduceSub, Int.reduceSub, Int.reduceMul, Int.reduceNeg, Int.reduceAdd]
  refine Cont.mk hk ?_
  rw [List.set_append_right _ _ (Nat.le_refl _)]
  simp (maxSteps := 2000000) (disch := omega) only [go_sem, eq_self, if_true, if_false, reduceCtorEq, Int.reduceToNat, Int.reducePow, Nat.reducePow, Nat.reduceMul, Int.reduceLT, Int.reduceLE, Nat.reduceAdd, Nat.reduceLeDiff, Nat.reduceBEq, Nat.reduceSub, Int.reduceSub, Int.reduceMul, Int.reduceNeg, Int.reduceAdd]
  exact fin _ (by rw [szL, if_pos ⟨hg, ha⟩]) _
end Go.Proofs.Ytlhpcccffmfopaa

/- The reference's sizes. -/
namespace Go.Proofs.Ytlhpcccffmfopaa
set_option linter.unusedVariables false
set_option linter.unusedSimpArgs false
set_option linter.unusedSectionVars false
set_option linter.unusedSimpArgs false
set_option linter.unusedVariables false
set_option maxRecDepth 20000
set_option maxHeartbeats 4000000
open Go.RowKit

theorem rup_c {n : Int} (h0 : 0 ≤ n) (h1 : n ≤ 1000000000) (H : List ABlk) : ACalls Try.prog 51 [iv n] H fun v H' => v = iv (upI n) ∧ H' = H := by
  have e : (n + 3).tdiv 4 = (n + 3) / 4 := Int.tdiv_eq_ediv_of_nonneg (by omega)
  refine ACalls.into Try.func51 cc51 rr51 fun hcl => ?_
  simp (maxSteps := 2000000) (disch := omega) only [Try.ntmps51, c51, r51, e, go_sem, eq_self, if_true, if_false, reduceCtorEq, Int.reduceToNat, Int.reducePow, Nat.reducePow, Nat.reduceMul, Int.reduceLT, Int.reduceLE, Nat.reduceAdd, Nat.reduceLeDiff, Nat.reduceBEq, Nat.reduceSub, Int.reduceSub, Int.reduceMul, Int.reduceNeg, Int.reduceAdd]
  exact Ret.keep ⟨rfl, rfl⟩
theorem fields_c {x : Ty} (hf : x.fields.length ≤ 3000) (H : List ABlk) : ACalls Try.prog 49 [x.av] H fun v H' => v = .d (.sl ((x.fields.map Fd.typ).map kd)) ∧ H' = H := by
  refine ACalls.into Try.func49 cc49 rr49 fun hcl => ?_
  obtain ⟨F, hF⟩ : ∃ F : Nat → List Int, ∀ i, F i = (x.fields.take i).map Fd.typ := ⟨_, fun _ => rfl⟩
  have hF0 : F 0 = [] := by rw [hF]; rfl
  have hFn : F x.fields.length = x.fields.map Fd.typ := by rw [hF, List.take_length]
  have hFs : ∀ i, i < x.fields.length → F (i + 1) = F i ++ [(x.fields.getD i default).typ] := fun i hi => by
    rw [hF, hF, getD_take (d := default) hi]; simp
  have hFl : ∀ i, i ≤ x.fields.length → (F i).length = i := fun i hi => by rw [hF, List.length_map, List.length_take]; omega
  rw [← hFn]
  simp (maxSteps := 2000000) (disch := omega) only [Try.ntmps49, c49, r49, List.length_map, go_sem, eq_self, if_true, if_false, reduceCtorEq, Int.reduceToNat, Int.reducePow, Nat.reducePow, Nat.reduceMul, Int.reduceLT, Int.reduceLE, Nat.reduceAdd, Nat.reduceLeDiff, Nat.reduceBEq, Nat.reduceSub, Int.reduceSub, Int.reduceMul, Int.reduceNeg, Int.reduceAdd]
  refine W.loopG (γ := Nat) (fun i => x.fields.length - i) (fun i => [.any, .ptr H.length 0, .esl, .gsl (H.length + 1) 1 ((F i).map kd), iv i] ++ List.replicate 17 .any) (fun i => H ++ [.cells x.cs, .row 3 1 i]) (fun i => i ≤ x.fields.length) 0 (by simp only [hF0]; exact Wk.slots (by (try simp only [List.replicate, List.cons_append, List.nil_append]); repeat' first | exact WkL.nil | refine WkL.cons (Wk1.rfl _) ?_ | refine WkL.cons Wk1.esl ?_ | refine WkL.cons (Wk1.gsl _ _ _) ?_ | refine WkL.cons (Wk1.any _) ?_)) (by omega) (fun i hi => ?_)
  have hl := hFl i hi
  simp (maxSteps := 2000000) (disch := omega) only [c49l0, Ty.cs, List.length_map, go_sem, eq_self, if_true, if_false, reduceCtorEq, Int.reduceToNat, Int.reducePow, Nat.reducePow, Nat.reduceMul, Int.reduceLT, Int.reduceLE, Nat.reduceAdd, Nat.reduceLeDiff, Nat.reduceBEq, Nat.reduceSub, Int.reduceSub, Int.reduceMul, Int.reduceNeg, Int.reduceAdd]
  refine Br.dec (fun hc => ?_) (fun hc => ?_) <;> simp (maxSteps := 2000000) (disch := omega) only [go_sem, eq_self, if_true, if_false, reduceCtorEq, Int.reduceToNat, Int.reducePow, Nat.reducePow, Nat.reduceMul, Int.reduceLT, Int.reduceLE, Nat.reduceAdd, Nat.reduceLeDiff, Nat.reduceBEq, Nat.reduceSub, Int.reduceSub, Int.reduceMul, Int.reduceNeg, Int.reduceAdd]
  · have hia := iaA_fd (t := x.fields) (a := (i : Int)) (by omega) (by omega)
    rw [fdAt, Int.toNat_natCast] at hia
    have hs := hFs i (by omega)
    have em : (F i).map kd ++ [[Dat.v (.int .i64 (x.fields.getD i default).typ)]] = (F (i + 1)).map kd := by rw [hs]; simp
    have hlk : ((F i).map kd).length = i := by rw [List.length_map]; exact hl
    generalize x.fields.getD i default = f at *
    simp (maxSteps := 2000000) (disch := omega) only [hia, Fd.c, hlk, em, go_sem, eq_self, if_true, if_false, reduceCtorEq, Int.reduceToNat, Int.reducePow, Nat.reducePow, Nat.reduceMul, Int.reduceLT, Int.reduceLE, Nat.reduceAdd, Nat.reduceLeDiff, Nat.reduceBEq, Nat.reduceSub, Int.reduceSub, Int.reduceMul, Int.reduceNeg, Int.reduceAdd]
    exact Nxt.mk (i + 1) (by omega) (Wk.slots (by (try simp only [List.replicate, List.cons_append, List.nil_append]); repeat' first | exact WkL.nil | refine WkL.cons (Wk1.rfl _) ?_ | refine WkL.cons Wk1.esl ?_ | refine WkL.cons (Wk1.gsl _ _ _) ?_ | refine WkL.cons (Wk1.any _) ?_)) (by omega)
  · have ei : i = x.fields.length := by omega
    subst ei
    exact Ret.drop _ H (Nat.le_refl _) hcl (.gsl _ _ _) (by simp [refs]) ⟨rfl, rfl⟩
end Go.Proofs.Ytlhpcccffmfopaa

/- The reference's sizes, and where things lie. -/
namespace Go.Proofs.Ytlhpcccffmfopaa
set_option linter.unusedVariables false
set_option linter.unusedSimpArgs false
set_option linter.unusedSectionVars false
set_option linter.unusedSimpArgs false
set_option linter.unusedVariables false
set_option maxRecDepth 20000
set_option maxHeartbeats 4000000
open Go.RowKit

abbrev kbB (m : List Int) : ABlk := .cells (m.map iv)
abbrev sbB (t : List Ty) (kb : Nat) : ABlk := .cells [tv t, .hsl kb 0 t.length t.length 1]
theorem kbB_refs (m : List Int) : (kbB m).refs = [] := refsL_iv m
def RSizeK (t : List Ty) (a : Int) : Prop := ∀ (m : List Int) (H : List ABlk) (sb kb : Nat), m.length = t.length → MOk t (KR t) m → H[sb]? = some (sbB t kb) → H[kb]? = some (kbB m) → sb ≠ kb →
  ACalls Try.prog 46 [.ptr sb 0, iv a] H fun v H' => v = iv (szF t a) ∧ H' = H.set kb (kbB (updM t (KR t) m a))
theorem GoodP.inR {t : List Ty} (hg : GoodP t) : InK (KR t) t.length := fun a h0 h1 y hy => hg.kidZ ⟨h0, h1⟩ (KR_sub hy)
theorem GoodP.sz0 {t : List Ty} (hg : GoodP t) : ∀ c : Int, 0 ≤ c → c < t.length → 0 ≤ szF t c := fun c h0 h1 => (hg.sz ⟨h0, h1⟩).1
theorem laid_c {t : List Ty} (ht : TT t) (hg : GoodP t) {l : List Int} (hl : l.length ≤ 3000) (hpl : ∀ y ∈ l, placeP t y) (hk : ∀ y ∈ l, RSizeK t y) {n : Int} (n0 : 0 ≤ n) (n1 : n ≤ 32772) {m : List Int} {H : List ABlk} {sb kb : Nat} (hm : m.length = t.length) (hmo : MOk t (KR t) m)
    (hsb : H[sb]? = some (sbB t kb)) (hkb : H[kb]? = some (kbB m)) (hne : sb ≠ kb) :
    ACalls Try.prog 48 [.ptr sb 0, .d (.sl (l.map kd)), iv n] H fun v H' => v = .tup [.d (.sl ((atsR t (szF t) n l).map kd)), iv (endR t (szF t) n l)] ∧ H' = H.set kb (kbB (l.foldl (updM t (KR t)) m)) := by
  have hz0 : ∀ y ∈ l, 0 ≤ szF t y := fun y hy => (hg.sz (hpl y hy)).1
  have hzy : ∀ y ∈ l, 0 ≤ szF t y ∧ szF t y ≤ 32769 := fun y hy => hg.sz (hpl y hy)
  have htl := hg.len.2
  have hkl := lt_of_at hkb
  obtain ⟨M, hM⟩ : ∃ M : Nat → List Int, ∀ i, M i = (l.take i).foldl (updM t (KR t)) m := ⟨_, fun _ => rfl⟩
  obtain ⟨N, hN⟩ : ∃ N : Nat → Int, ∀ i, N i = endR t (szF t) n (l.take i) := ⟨_, fun _ => rfl⟩
  obtain ⟨A, hA⟩ : ∃ A : Nat → List Int, ∀ i, A i = atsR t (szF t) n (l.take i) := ⟨_, fun _ => rfl⟩
  have hMl : ∀ i, (M i).length = t.length := fun i => by rw [hM, fold_len]; exact hm
  have hMo : ∀ i, MOk t (KR t) (M i) := fun i => by
    rw [hM]; exact hmo.fold hg.inR hg.sz0 (by omega) fun y hy => hpl y (List.mem_of_mem_take hy)
  have hNr : ∀ i, n ≤ N i ∧ N i ≤ 32772 := fun i => by
    rw [hN]; exact endR_rng (fun y hy => hz0 y (List.mem_of_mem_take hy)) ⟨n0, n1⟩
  have hAl : ∀ i, i ≤ l.length → (A i).length = i := fun i hi => by rw [hA, atsR_len, List.length_take]; omega
  have hNs : ∀ i, i < l.length → N (i + 1) = min (atI t (N i) (l.getD i 0) + szF t (l.getD i 0)) 32772 := fun i hi => by
    rw [hN, hN, getD_take (d := 0) hi, endR_app]; rfl
  have hMs : ∀ i, i < l.length → M (i + 1) = updM t (KR t) (M i) (l.getD i 0) := fun i hi => by
    rw [hM, hM, getD_take (d := 0) hi, List.foldl_append]; rfl
  have hAs : ∀ i, i < l.length → A (i + 1) = A i ++ [atI t (N i) (l.getD i 0)] := fun i hi => by
    rw [hA, hA, hN, getD_take (d := 0) hi, atsR_app]
  have hN0 : N 0 = n := by rw [hN]; rfl
  have hA0 : A 0 = [] := by rw [hA]; rfl
  have hNl : N l.length = endR t (szF t) n l := by rw [hN, List.take_length]
  have hAL : A l.length = atsR t (szF t) n l := by rw [hA, List.take_length]
  have hML : M l.length = l.foldl (updM t (KR t)) m := by rw [hM, List.take_length]
  rw [← hNl, ← hAL, ← hML]
  have hmem : ∀ i, i < l.length → l.getD i 0 ∈ l := fun i hi => by rw [List.getD_eq_getElem?_getD, List.getElem?_eq_getElem hi]; exact List.getElem_mem _
  refine ACalls.into Try.func48 cc48 rr48 fun hcl => ?_
  obtain ⟨G, hG⟩ : ∃ G : Nat → List ABlk, ∀ i, G i = H.set kb (kbB (M i)) := ⟨_, fun _ => rfl⟩
  have hGl : ∀ i, (G i).length = H.length := fun i => by rw [hG, List.length_set]
  have hGk : ∀ i l, (G i ++ l)[kb]? = some (kbB (M i)) := fun i l => at_app (by rw [hG, List.getElem?_set_self hkl]) l
  have hGb : ∀ i l, (G i ++ l)[sb]? = some (sbB t kb) := fun i l => at_app (by rw [hG, List.getElem?_set_ne hne.symm]; exact hsb) l
  have hGs : ∀ i l y, (G i ++ l).set kb (kbB (M y)) = G y ++ l := fun i l y => by
    rw [List.set_append_left _ _ (by rw [hGl]; exact hkl), hG, hG, List.set_set]
  have hGc : ∀ i, cl (G i) := fun i => by rw [hG]; exact hcl.put (kbB_refs _)
  have hG0 : H = G 0 := by rw [hG, hM]; exact (put_self hkb).symm
  have hq : ∀ i c l, (G i ++ (c :: l))[H.length]? = some c := fun i c l => by rw [List.getElem?_append_right (by rw [hGl]; exact Nat.le_refl _), hGl]; simp
  have hqs : ∀ i c l x, (G i ++ (c :: l)).set H.length x = G i ++ (x :: l) := fun i c l x => by rw [List.set_append_right _ _ (by rw [hGl]; exact Nat.le_refl _), hGl]; simp
  simp (maxSteps := 2000000) (disch := omega) only [Try.ntmps48, c48, r48, List.length_map, go_sem, eq_self, if_true, if_false, reduceCtorEq, Int.reduceToNat, Int.reducePow, Nat.reducePow, Nat.reduceMul, Int.reduceLT, Int.reduceLE, Nat.reduceAdd, Nat.reduceLeDiff, Nat.reduceBEq, Nat.reduceSub, Int.reduceSub, Int.reduceMul, Int.reduceNeg, Int.reduceAdd]
  refine W.loopG (γ := Nat) (fun i => l.length - i) (fun i => [.ptr sb 0, .d (.sl (l.map kd)), iv (N i), .any, .any, .any, .esl, iv 0, .gsl H.length 1 ((A i).map kd), iv i] ++ List.replicate 41 .any) (fun i => G i ++ [.row 3 1 i]) (fun i => i ≤ l.length) 0 (by simp only [hN0, hA0, ← hG0]; exact Wk.slots (by (try simp only [List.replicate, List.cons_append, List.nil_append]); repeat' first | exact WkL.nil | refine WkL.cons (Wk1.rfl _) ?_ | refine WkL.cons Wk1.esl ?_ | refine WkL.cons (Wk1.gsl _ _ _) ?_ | refine WkL.cons (Wk1.any _) ?_)) (by omega) (fun i hi => ?_)
  have hal := hAl i hi
  simp (maxSteps := 2000000) (disch := omega) only [c48l0, List.length_map, go_sem, eq_self, if_true, if_false, reduceCtorEq, Int.reduceToNat, Int.reducePow, Nat.reducePow, Nat.reduceMul, Int.reduceLT, Int.reduceLE, Nat.reduceAdd, Nat.reduceLeDiff, Nat.reduceBEq, Nat.reduceSub, Int.reduceSub, Int.reduceMul, Int.reduceNeg, Int.reduceAdd]
  refine Br.dec (fun hc => ?_) (fun hc => ?_) <;> simp (maxSteps := 2000000) (disch := omega) only [go_sem, eq_self, if_true, if_false, reduceCtorEq, Int.reduceToNat, Int.reducePow, Nat.reducePow, Nat.reduceMul, Int.reduceLT, Int.reduceLE, Nat.reduceAdd, Nat.reduceLeDiff, Nat.reduceBEq, Nat.reduceSub, Int.reduceSub, Int.reduceMul, Int.reduceNeg, Int.reduceAdd]
  · have hia := iaA_map (n := 1) kd 0 (l := l) (a := (i : Int)) (by omega) (by omega) rfl
    rw [Int.toNat_natCast] at hia
    have hns := hNs i (by omega)
    have hms := hMs i (by omega)
    have has := hAs i (by omega)
    have hmm := hmem i (by omega)
    have hkm : (A i).map kd ++ [kd (atI t (N i) (l.getD i 0))] = (A (i + 1)).map kd := by rw [has]; simp
    have hlk : ((A i).map kd).length = i := by rw [List.length_map]; exact hal
    obtain ⟨r1, r2⟩ := hNr i
    generalize l.getD i 0 = y at *
    have hy := hpl y hmm
    have iay := iaA_ty hy.1 hy.2
    have hat := at_ge t (n := N i) y (by omega)
    have hzz := hzy y hmm
    refine W.pchain follows (by decide +kernel) ?_
    simp (maxSteps := 2000000) (disch := omega) only [hGb, hia, iay, Ty.c, go_sem, eq_self, if_true, if_false, reduceCtorEq, Int.reduceToNat, Int.reducePow, Nat.reducePow, Nat.reduceMul, Int.reduceLT, Int.reduceLE, Nat.reduceAdd, Nat.reduceLeDiff, Nat.reduceBEq, Nat.reduceSub, Int.reduceSub, Int.reduceMul, Int.reduceNeg, Int.reduceAdd]
    have hkk : ∀ tl, ACalls Try.prog 46 [.ptr sb 0, iv y] (G i ++ tl) fun v H' => v = iv (szF t y) ∧ H' = (G i ++ tl).set kb (kbB (updM t (KR t) (M i) y)) := fun tl => hk y hmm (M i) _ sb kb (hMl i) (hMo i) (hGb i tl) (hGk i tl) hne
    have e23 : (tyAt t y).form = 2 ∨ (tyAt t y).form = 3 → atI t (N i) y = N i := fun h => if_pos h
    have e0 : ¬ ((tyAt t y).form = 2 ∨ (tyAt t y).form = 3) → atI t (N i) y = upI (N i) := fun h => if_neg h
    generalize (tyAt t y).form = f at *
    by_cases f2 : f = 2
    · have e := e23 (.inl f2)
      rw [e] at hkm hns
      simp (maxSteps := 2000000) (disch := omega) only [hlk, hkm, hq, hqs, hGb, hia, go_sem, eq_self, if_true, if_false, reduceCtorEq, Int.reduceToNat, Int.reducePow, Nat.reducePow, Nat.reduceMul, Int.reduceLT, Int.reduceLE, Nat.reduceAdd, Nat.reduceLeDiff, Nat.reduceBEq, Nat.reduceSub, Int.reduceSub, Int.reduceMul, Int.reduceNeg, Int.reduceAdd]
      refine Cont.mk (hkk _) ?_
      rw [← hms, hGs]
      simp (maxSteps := 2000000) (disch := omega) only [go_sem, eq_self, if_true, if_false, reduceCtorEq, Int.reduceToNat, Int.reducePow, Nat.reducePow, Nat.reduceMul, Int.reduceLT, Int.reduceLE, Nat.reduceAdd, Nat.reduceLeDiff, Nat.reduceBEq, Nat.reduceSub, Int.reduceSub, Int.reduceMul, Int.reduceNeg, Int.reduceAdd]
      rw [← hns]
      exact Nxt.mk (i + 1) (by omega) (Wk.slots (by (try simp only [List.replicate, List.cons_append, List.nil_append]); repeat' first | exact WkL.nil | refine WkL.cons (Wk1.rfl _) ?_ | refine WkL.cons Wk1.esl ?_ | refine WkL.cons (Wk1.gsl _ _ _) ?_ | refine WkL.cons (Wk1.any _) ?_)) (by omega)
    by_cases f3 : f = 3
    · have e := e23 (.inr f3)
      rw [e] at hkm hns
      simp (maxSteps := 2000000) (disch := omega) only [hlk, hkm, hq, hqs, hGb, hia, go_sem, eq_self, if_true, if_false, reduceCtorEq, Int.reduceToNat, Int.reducePow, Nat.reducePow, Nat.reduceMul, Int.reduceLT, Int.reduceLE, Nat.reduceAdd, Nat.reduceLeDiff, Nat.reduceBEq, Nat.reduceSub, Int.reduceSub, Int.reduceMul, Int.reduceNeg, Int.reduceAdd]
      refine Cont.mk (hkk _) ?_
      rw [← hms, hGs]
      simp (maxSteps := 2000000) (disch := omega) only [go_sem, eq_self, if_true, if_false, reduceCtorEq, Int.reduceToNat, Int.reducePow, Nat.reducePow, Nat.reduceMul, Int.reduceLT, Int.reduceLE, Nat.reduceAdd, Nat.reduceLeDiff, Nat.reduceBEq, Nat.reduceSub, Int.reduceSub, Int.reduceMul, Int.reduceNeg, Int.reduceAdd]
      rw [← hns]
      exact Nxt.mk (i + 1) (by omega) (Wk.slots (by (try simp only [List.replicate, List.cons_append, List.nil_append]); repeat' first | exact WkL.nil | refine WkL.cons (Wk1.rfl _) ?_ | refine WkL.cons Wk1.esl ?_ | refine WkL.cons (Wk1.gsl _ _ _) ?_ | refine WkL.cons (Wk1.any _) ?_)) (by omega)
    have e := e0 (fun h => h.elim f2 f3)
    rw [e] at hkm hns hat
    simp (maxSteps := 2000000) (disch := omega) only [go_sem, eq_self, if_true, if_false, reduceCtorEq, Int.reduceToNat, Int.reducePow, Nat.reducePow, Nat.reduceMul, Int.reduceLT, Int.reduceLE, Nat.reduceAdd, Nat.reduceLeDiff, Nat.reduceBEq, Nat.reduceSub, Int.reduceSub, Int.reduceMul, Int.reduceNeg, Int.reduceAdd]
    refine Cont.mk (rup_c (by omega) (by omega) _) ?_
    simp (maxSteps := 2000000) (disch := omega) only [hlk, hkm, hq, hqs, hGb, hia, go_sem, eq_self, if_true, if_false, reduceCtorEq, Int.reduceToNat, Int.reducePow, Nat.reducePow, Nat.reduceMul, Int.reduceLT, Int.reduceLE, Nat.reduceAdd, Nat.reduceLeDiff, Nat.reduceBEq, Nat.reduceSub, Int.reduceSub, Int.reduceMul, Int.reduceNeg, Int.reduceAdd]
    refine Cont.mk (hkk _) ?_
    rw [← hms, hGs]
    simp (maxSteps := 2000000) (disch := omega) only [go_sem, eq_self, if_true, if_false, reduceCtorEq, Int.reduceToNat, Int.reducePow, Nat.reducePow, Nat.reduceMul, Int.reduceLT, Int.reduceLE, Nat.reduceAdd, Nat.reduceLeDiff, Nat.reduceBEq, Nat.reduceSub, Int.reduceSub, Int.reduceMul, Int.reduceNeg, Int.reduceAdd]
    rw [← hns]
    exact Nxt.mk (i + 1) (by omega) (Wk.slots (by (try simp only [List.replicate, List.cons_append, List.nil_append]); repeat' first | exact WkL.nil | refine WkL.cons (Wk1.rfl _) ?_ | refine WkL.cons Wk1.esl ?_ | refine WkL.cons (Wk1.gsl _ _ _) ?_ | refine WkL.cons (Wk1.any _) ?_)) (by omega)
  · have ei : i = l.length := by omega
    subst ei
    rw [hG]
    refine Ret.drop (.tup [.d (.sl ((A l.length).map kd)), iv (N l.length)]) (H.set kb _) (by simp) (hcl.put (kbB_refs _)) (.tup rfl fun i c c' h1 h2 => ?_) (by simp [refs, refs.refsL]) ⟨rfl, rfl⟩
    match i, h1, h2 with
    | 0, h1, h2 => cases h1; cases h2; exact .gsl _ _ _
    | 1, h1, h2 => cases h1; cases h2; exact .rfl _
end Go.Proofs.Ytlhpcccffmfopaa

/- The reference's size. -/
namespace Go.Proofs.Ytlhpcccffmfopaa
set_option linter.unusedVariables false
set_option linter.unusedSimpArgs false
set_option linter.unusedSectionVars false
set_option linter.unusedSimpArgs false
set_option linter.unusedVariables false
set_option maxRecDepth 20000
set_option maxHeartbeats 4000000
open Go.RowKit

theorem kb_take {m : List Int} {a : Nat} (a1 : a < m.length) : List.take 1 (List.drop a (m.map iv)) = [iv (m.getD a 0)] := by
  rw [← List.map_drop, List.drop_eq_getElem_cons a1, List.map_cons, List.take_succ_cons, List.take_zero, List.getD_eq_getElem?_getD, List.getElem?_eq_getElem a1]; rfl
theorem rsize_c {t : List Ty} (ht : TT t) (hg : GoodP t) {a : Int} (ha : placeP t a) (hk : ∀ y ∈ KR t a, RSizeK t y) : RSizeK t a := by
  intro m H sb kb hm hmo hsb hkb hne
  have hpl : ∀ y ∈ KR t a, placeP t y := fun y hy => hg.kidZ ha (KR_sub hy)
  have hsr := hg.sz ha
  have hix := iaA_hsl (b := kb) (n := t.length) ha
  have a0 := ha.1
  have a1 := ha.2
  have htk := kb_take (m := m) (a := a.toNat) (by omega)
  have hkl := lt_of_at hkb
  refine ACalls.enter Try.func46 cc46 rr46 fun hcl => ?_
  simp only [Try.ntmps46, c46, r46]
  refine W.seq_reg ?_
  simp (maxSteps := 2000000) (disch := omega) only [go_sem, eq_self, if_true, if_false, reduceCtorEq, Int.reduceToNat, Int.reducePow, Nat.reducePow, Nat.reduceMul, Int.reduceLT, Int.reduceLE, Nat.reduceAdd, Nat.reduceLeDiff, Nat.reduceBEq, Nat.reduceSub, Int.reduceSub, Int.reduceMul, Int.reduceNeg, Int.reduceAdd]
  refine W.cut (fun s H' => s = [.ptr sb 0, iv a, .any, .any, iv 0] ++ List.replicate 75 .any ∧ H' = H ∧ m.getD a.toNat 0 = 0) (wpA.W ?_) ?_
  · simp (maxSteps := 2000000) (disch := omega) only [hsb, hkb, hix, htk, go_sem, eq_self, if_true, if_false, reduceCtorEq, Int.reduceToNat, Int.reducePow, Nat.reducePow, Nat.reduceMul, Int.reduceLT, Int.reduceLE, Nat.reduceAdd, Nat.reduceLeDiff, Nat.reduceBEq, Nat.reduceSub, Int.reduceSub, Int.reduceMul, Int.reduceNeg, Int.reduceAdd]
    rcases hmo.val a.toNat with h | h
    · simp (maxSteps := 2000000) (disch := omega) only [h, hsb, hkb, hix, htk, go_sem, eq_self, if_true, if_false, reduceCtorEq, Int.reduceToNat, Int.reducePow, Nat.reducePow, Nat.reduceMul, Int.reduceLT, Int.reduceLE, Nat.reduceAdd, Nat.reduceLeDiff, Nat.reduceBEq, Nat.reduceSub, Int.reduceSub, Int.reduceMul, Int.reduceNeg, Int.reduceAdd]
      exact ⟨_, _, Wk.slots (by (try simp only [List.replicate, List.cons_append, List.nil_append]); repeat' first | exact WkL.nil | refine WkL.cons (Wk1.rfl _) ?_ | refine WkL.cons Wk1.esl ?_ | refine WkL.cons (Wk1.gsl _ _ _) ?_ | refine WkL.cons (Wk1.any _) ?_), rfl, rfl⟩
    · have hid := updM_id hmo a0 (by rw [h]; rw [show ((a.toNat : Nat) : Int) = a by omega]; omega)
      rw [show ((a.toNat : Nat) : Int) = a by omega] at h
      rw [hid, put_self hkb]
      simp (maxSteps := 2000000) (disch := omega) only [h, hsb, hkb, hix, htk, go_sem, eq_self, if_true, if_false, reduceCtorEq, Int.reduceToNat, Int.reducePow, Nat.reducePow, Nat.reduceMul, Int.reduceLT, Int.reduceLE, Nat.reduceAdd, Nat.reduceLeDiff, Nat.reduceBEq, Nat.reduceSub, Int.reduceSub, Int.reduceMul, Int.reduceNeg, Int.reduceAdd]
      exact Ret.keep ⟨by rw [Int.add_sub_cancel], rfl⟩
  rintro s H' ⟨rfl, rfl, hz⟩
  refine W.seq_reg ?_
  simp (maxSteps := 2000000) (disch := omega) only [go_sem, eq_self, if_true, if_false, reduceCtorEq, Int.reduceToNat, Int.reducePow, Nat.reducePow, Nat.reduceMul, Int.reduceLT, Int.reduceLE, Nat.reduceAdd, Nat.reduceLeDiff, Nat.reduceBEq, Nat.reduceSub, Int.reduceSub, Int.reduceMul, Int.reduceNeg, Int.reduceAdd]
  have iax := iaA_ty ha.1 ha.2
  obtain ⟨F, hF⟩ : ∃ F, F = (KR t a).foldl (updM t (KR t)) m := ⟨_, rfl⟩
  have hFl : F.length = t.length := by rw [hF, fold_len]; exact hm
  have hFn : F.set a.toNat (szF t a + 1) = updM t (KR t) m a := by rw [hF]; exact updM_new a0 (by omega)
  have s4 := hg.sz_4 ha
  have s1 := hg.sz_1 ha
  have s7 := hg.sz_arr ha
  have s9 := hg.sz_rec ha
  have s0 := hg.sz_no ha
  have hlen := hg.len7 ha
  have hfl := (ht.s.2 _ (tyAt_mem ha.1 ha.2)).1
  have z0 := hg.sz_0
  have htl := hg.len.2
  have hsame : H'.set kb (kbB m) = H' := put_self hkb
  have hKR : KR t a = if (tyAt t a).form = 7 then [(tyAt t a).elem] else if (tyAt t a).form = 9 then (if (tyAt t a).base = 0 then [] else [(tyAt t a).base]) ++ (tyAt t a).fields.map Fd.typ else [] := rfl
  have hKZ : KZ t a = if (tyAt t a).form = 7 then [(tyAt t a).elem] else if (tyAt t a).form = 9 then (tyAt t a).base :: (tyAt t a).fields.map Fd.typ else [] := rfl
  have hplZ : ∀ y ∈ KZ t a, placeP t y := fun y hy => hg.kidZ ha hy
  rw [hKR] at hF hk hpl
  rw [hKZ] at hplZ
  clear hKR hKZ
  have hbx : ∀ (cs : List AV) (n : Int), ∀ x, (H'.set kb x ++ [.cells cs])[H'.length]? = some (.cells cs) := fun cs n x => by rw [List.getElem?_append_right (by rw [List.length_set]; exact Nat.le_refl _), List.length_set]; simp
  have hkl' : ∀ l x, (H' ++ l).set kb x = H'.set kb x ++ l := fun l x => set_app hkb x l
  have sbA := at_app hsb
  have kbA := at_app hkb
  generalize tyAt t a = x at *
  refine W.cut (fun s H2 => s = [.ptr sb 0, iv a, .any, .any, iv 0, iv (szF t a)] ++ List.replicate 74 .any ∧ H2 = H'.set kb (kbB F)) (wpA.W ?_) ?_
  · have fin : ∀ (s : List AV) (l : List ABlk), WkL s ([.ptr sb 0, iv a, .any, .any, iv 0, iv (szF t a)] ++ List.replicate 74 .any) → ∃ s0 H0, Wk H'.length s (H'.set kb (kbB F) ++ l) s0 H0 ∧ s0 = [.ptr sb 0, iv a, .any, .any, iv 0, iv (szF t a)] ++ List.replicate 74 .any ∧ H0 = H'.set kb (kbB F) := fun s l h =>
      ⟨_, _, Wk.drop h (by simp) (hcl.put (kbB_refs _)) (fun r hr => by
        simp only [refs, refs.refsL, List.replicate, List.cons_append, List.nil_append, List.append_nil, List.mem_cons, List.not_mem_nil, or_false, List.append_assoc] at hr
        rw [List.length_set]
        rcases hr with rfl
        exact lt_of_at hsb), rfl, rfl⟩
    by_cases f4 : x.form = 1 ∨ x.form = 4 ∨ x.form = 10 ∨ x.form = 11
    · rw [s4 f4] at fin ⊢
      rw [if_neg (by omega), if_neg (by omega), List.foldl_nil] at hF
      subst hF
      rw [hsame] at fin ⊢
      rcases f4 with f | f | f | f <;> (
        simp (maxSteps := 2000000) (disch := omega) only [hsb, iax, Ty.c, f, go_sem, eq_self, if_true, if_false, reduceCtorEq, Int.reduceToNat, Int.reducePow, Nat.reducePow, Nat.reduceMul, Int.reduceLT, Int.reduceLE, Nat.reduceAdd, Nat.reduceLeDiff, Nat.reduceBEq, Nat.reduceSub, Int.reduceSub, Int.reduceMul, Int.reduceNeg, Int.reduceAdd]
        exact fin _ _ (by (try simp only [List.replicate, List.cons_append, List.nil_append]); repeat' first | exact WkL.nil | refine WkL.cons (Wk1.rfl _) ?_ | refine WkL.cons Wk1.esl ?_ | refine WkL.cons (Wk1.gsl _ _ _) ?_ | refine WkL.cons (Wk1.any _) ?_))
    have g1 : x.form ≠ 1 ∧ x.form ≠ 4 ∧ x.form ≠ 10 ∧ x.form ≠ 11 := by omega
    by_cases f1 : x.form = 2 ∨ x.form = 3
    · rw [s1 f1] at fin ⊢
      rw [if_neg (by omega), if_neg (by omega), List.foldl_nil] at hF
      subst hF
      rw [hsame] at fin ⊢
      rcases f1 with f | f <;> (
        simp (maxSteps := 2000000) (disch := omega) only [hsb, iax, Ty.c, f, go_sem, eq_self, if_true, if_false, reduceCtorEq, Int.reduceToNat, Int.reducePow, Nat.reducePow, Nat.reduceMul, Int.reduceLT, Int.reduceLE, Nat.reduceAdd, Nat.reduceLeDiff, Nat.reduceBEq, Nat.reduceSub, Int.reduceSub, Int.reduceMul, Int.reduceNeg, Int.reduceAdd]
        exact fin _ _ (by (try simp only [List.replicate, List.cons_append, List.nil_append]); repeat' first | exact WkL.nil | refine WkL.cons (Wk1.rfl _) ?_ | refine WkL.cons Wk1.esl ?_ | refine WkL.cons (Wk1.gsl _ _ _) ?_ | refine WkL.cons (Wk1.any _) ?_))
    have g2 : x.form ≠ 2 ∧ x.form ≠ 3 := by omega
    by_cases f7 : x.form = 7
    · rw [s7 f7] at fin ⊢
      rw [if_pos f7] at hF hplZ
      rw [if_pos f7] at hk hpl
      have hy := hpl x.elem (by simp)
      have hsz := hg.sz hy
      obtain ⟨l1, l2⟩ := hlen f7
      have hky := hk x.elem (by simp) m
      have hmul : 0 ≤ x.len * szF t x.elem := Int.mul_nonneg (by omega) hsz.1
      have hmul2 : x.len * szF t x.elem ≤ 4096 * 32769 := Int.mul_le_mul l2 hsz.2 hsz.1 (by decide)
      simp only [List.foldl_cons, List.foldl_nil] at hF
      rw [hF] at fin ⊢
      generalize szF t x.elem = z at *
      have hbd : ∀ l, (H' ++ l)[kb]? ≠ some .dead := fun l => by rw [kbA]; exact fun e => by cases e
      have hll : ∀ x, (H'.set kb x).length = H'.length := fun x => List.length_set
      have hq : ∀ x c l, (H'.set kb x ++ (c :: l))[H'.length]? = some c := fun x c l => by rw [List.getElem?_append_right (by rw [hll]; exact Nat.le_refl _), hll]; simp
      simp (maxSteps := 2000000) (disch := omega) only [hsb, iax, Ty.c, f7, go_sem, eq_self, if_true, if_false, reduceCtorEq, Int.reduceToNat, Int.reducePow, Nat.reducePow, Nat.reduceMul, Int.reduceLT, Int.reduceLE, Nat.reduceAdd, Nat.reduceLeDiff, Nat.reduceBEq, Nat.reduceSub, Int.reduceSub, Int.reduceMul, Int.reduceNeg, Int.reduceAdd]
      refine W.dregD [([], [kb]), ([], [kb]), ([], []), ([], []), ([], []), ([kb], []), ([], []), ([], []), ([], []), ([], [])] follows (by decide +kernel) rfl rfl (fun z hz b' hb' => ?_) ?_
      · simp only [List.mem_cons, List.not_mem_nil, or_false] at hz
        rcases hz with rfl | rfl | rfl | rfl | rfl | rfl | rfl | rfl | rfl | rfl <;> simp at hb' <;> subst hb' <;> exact ⟨by simp, hbd _⟩
      repeat (rw [DC_p]; simp (maxSteps := 2000000) (disch := omega) only [kill_c, hkl', hq, go_sem, eq_self, if_true, if_false, reduceCtorEq, Int.reduceToNat, Int.reducePow, Nat.reducePow, Nat.reduceMul, Int.reduceLT, Int.reduceLE, Nat.reduceAdd, Nat.reduceLeDiff, Nat.reduceBEq, Nat.reduceSub, Int.reduceSub, Int.reduceMul, Int.reduceNeg, Int.reduceAdd])
      refine WStep.call (hky _ sb kb hm hmo (sbA _) (kbA _) hne) (fun c hc => List.getElem?_set_ne (fun e => hc (by simp [e]))) (by simp) ?_
      repeat (rw [DC_p]; simp (maxSteps := 2000000) (disch := omega) only [kill_c, hkl', hq, go_sem, eq_self, if_true, if_false, reduceCtorEq, Int.reduceToNat, Int.reducePow, Nat.reducePow, Nat.reduceMul, Int.reduceLT, Int.reduceLE, Nat.reduceAdd, Nat.reduceLeDiff, Nat.reduceBEq, Nat.reduceSub, Int.reduceSub, Int.reduceMul, Int.reduceNeg, Int.reduceAdd])
      refine PCont.mk (rup_c hmul (by omega) _) ?_
      simp (maxSteps := 2000000) (disch := omega) only [go_sem, eq_self, if_true, if_false, reduceCtorEq, Int.reduceToNat, Int.reducePow, Nat.reducePow, Nat.reduceMul, Int.reduceLT, Int.reduceLE, Nat.reduceAdd, Nat.reduceLeDiff, Nat.reduceBEq, Nat.reduceSub, Int.reduceSub, Int.reduceMul, Int.reduceNeg, Int.reduceAdd]
      repeat (rw [DC_p]; simp (maxSteps := 2000000) (disch := omega) only [go_sem, eq_self, if_true, if_false, reduceCtorEq, Int.reduceToNat, Int.reducePow, Nat.reducePow, Nat.reduceMul, Int.reduceLT, Int.reduceLE, Nat.reduceAdd, Nat.reduceLeDiff, Nat.reduceBEq, Nat.reduceSub, Int.reduceSub, Int.reduceMul, Int.reduceNeg, Int.reduceAdd])
      exact fin _ _ (by (try simp only [List.replicate, List.cons_append, List.nil_append]); repeat' first | exact WkL.nil | refine WkL.cons (Wk1.rfl _) ?_ | refine WkL.cons Wk1.esl ?_ | refine WkL.cons (Wk1.gsl _ _ _) ?_ | refine WkL.cons (Wk1.any _) ?_)
    by_cases f9 : x.form = 9
    rotate_left
    · rw [s0 f4 f1 f7 f9] at fin ⊢
      rw [if_neg f7, if_neg f9, List.foldl_nil] at hF
      subst hF
      rw [hsame] at fin ⊢
      simp (maxSteps := 2000000) (disch := omega) only [hsb, iax, Ty.c, go_sem, eq_self, if_true, if_false, reduceCtorEq, Int.reduceToNat, Int.reducePow, Nat.reducePow, Nat.reduceMul, Int.reduceLT, Int.reduceLE, Nat.reduceAdd, Nat.reduceLeDiff, Nat.reduceBEq, Nat.reduceSub, Int.reduceSub, Int.reduceMul, Int.reduceNeg, Int.reduceAdd]
      exact fin _ _ (by (try simp only [List.replicate, List.cons_append, List.nil_append]); repeat' first | exact WkL.nil | refine WkL.cons (Wk1.rfl _) ?_ | refine WkL.cons Wk1.esl ?_ | refine WkL.cons (Wk1.gsl _ _ _) ?_ | refine WkL.cons (Wk1.any _) ?_)
    rw [s9 f9] at fin ⊢
    rw [if_neg f7, if_pos f9] at hF hk hpl
    rw [if_neg f7, if_pos f9] at hplZ
    have hzf : ∀ y ∈ x.fields.map Fd.typ, 0 ≤ szF t y := fun y hy => (hg.sz (hplZ y (by simp only [List.mem_cons]; exact .inr hy))).1
    have hzb := hg.sz (hplZ x.base (by simp))
    have her := endR_rng (t := t) (g := szF t) (l := x.fields.map Fd.typ) (n := szF t x.base) hzf ⟨hzb.1, by omega⟩
    have hfc := fields_c hfl
    have hkf : ∀ y ∈ x.fields.map Fd.typ, RSizeK t y := fun y hy => hk y (by simp only [List.mem_append]; exact .inr hy)
    have hpf : ∀ y ∈ x.fields.map Fd.typ, placeP t y := fun y hy => hplZ y (by simp only [List.mem_cons]; exact .inr hy)
    have hlf : (x.fields.map Fd.typ).length ≤ 3000 := by rw [List.length_map]; exact hfl
    have hll : ∀ x, (H'.set kb x).length = H'.length := fun x => List.length_set
    have hq : ∀ x c l, (H'.set kb x ++ (c :: l))[H'.length]? = some c := fun x c l => by rw [List.getElem?_append_right (by rw [hll]; exact Nat.le_refl _), hll]; simp
    have hcut : ∀ n : Int, min n 32769 = cutI n := fun n => rfl
    by_cases hb0 : x.base = 0
    · have kb0 := feq hb0
      rw [if_pos hb0, List.nil_append] at hF hk
      rw [hb0, z0] at her fin ⊢
      rw [hF] at fin ⊢
      simp (maxSteps := 2000000) (disch := omega) only [hsb, iax, Ty.c, go_sem, eq_self, if_true, if_false, reduceCtorEq, Int.reduceToNat, Int.reducePow, Nat.reducePow, Nat.reduceMul, Int.reduceLT, Int.reduceLE, Nat.reduceAdd, Nat.reduceLeDiff, Nat.reduceBEq, Nat.reduceSub, Int.reduceSub, Int.reduceMul, Int.reduceNeg, Int.reduceAdd]
      refine Cont.mk (hfc _) ?_
      simp (maxSteps := 2000000) (disch := omega) only [go_sem, eq_self, if_true, if_false, reduceCtorEq, Int.reduceToNat, Int.reducePow, Nat.reducePow, Nat.reduceMul, Int.reduceLT, Int.reduceLE, Nat.reduceAdd, Nat.reduceLeDiff, Nat.reduceBEq, Nat.reduceSub, Int.reduceSub, Int.reduceMul, Int.reduceNeg, Int.reduceAdd]
      refine Cont.mk (laid_c ht hg hlf hpf hkf (Int.le_refl 0) (by omega) hm hmo (sbA _) (kbA _) hne) ?_
      rw [hkl']
      simp (maxSteps := 2000000) (disch := omega) only [hq, go_sem, eq_self, if_true, if_false, reduceCtorEq, Int.reduceToNat, Int.reducePow, Nat.reducePow, Nat.reduceMul, Int.reduceLT, Int.reduceLE, Nat.reduceAdd, Nat.reduceLeDiff, Nat.reduceBEq, Nat.reduceSub, Int.reduceSub, Int.reduceMul, Int.reduceNeg, Int.reduceAdd]
      refine Cont.mk (rup_c (by omega) (by omega) _) ?_
      simp (maxSteps := 2000000) (disch := omega) only [hcut, go_sem, eq_self, if_true, if_false, reduceCtorEq, Int.reduceToNat, Int.reducePow, Nat.reducePow, Nat.reduceMul, Int.reduceLT, Int.reduceLE, Nat.reduceAdd, Nat.reduceLeDiff, Nat.reduceBEq, Nat.reduceSub, Int.reduceSub, Int.reduceMul, Int.reduceNeg, Int.reduceAdd]
      exact fin _ _ (by (try simp only [List.replicate, List.cons_append, List.nil_append]); repeat' first | exact WkL.nil | refine WkL.cons (Wk1.rfl _) ?_ | refine WkL.cons Wk1.esl ?_ | refine WkL.cons (Wk1.gsl _ _ _) ?_ | refine WkL.cons (Wk1.any _) ?_)
    · rw [if_neg hb0] at hF hk
      have hkb' := hk x.base (by simp) m
      have hF2 : F = (x.fields.map Fd.typ).foldl (updM t (KR t)) (updM t (KR t) m x.base) := by rw [hF]; rfl
      rw [hF2] at fin ⊢
      have hpb := hplZ x.base (by simp)
      have hm1 : (updM t (KR t) m x.base).length = t.length := by rw [updM_len]; exact hm
      have hmo1 : MOk t (KR t) (updM t (KR t) m x.base) := hmo.upd hg.inR (by omega) hpb.1 hpb.2 fun c hc => hg.sz0 c (hc.rng hg.inR hpb.1 hpb.2).1 (hc.rng hg.inR hpb.1 hpb.2).2
      have sb3 : ∀ x l, (H'.set kb x ++ l)[sb]? = some (sbB t kb) := fun x l => at_app (by rw [List.getElem?_set_ne hne.symm]; exact hsb) l
      have kb3 : ∀ x l, (H'.set kb x ++ l)[kb]? = some x := fun x l => at_app (List.getElem?_set_self hkl) l
      have hks : ∀ x y l, (H'.set kb x ++ l).set kb y = H'.set kb y ++ l := fun x y l => by rw [List.set_append_left _ _ (by rw [hll]; exact hkl), List.set_set]
      simp (maxSteps := 2000000) (disch := omega) only [hsb, iax, Ty.c, go_sem, eq_self, if_true, if_false, reduceCtorEq, Int.reduceToNat, Int.reducePow, Nat.reducePow, Nat.reduceMul, Int.reduceLT, Int.reduceLE, Nat.reduceAdd, Nat.reduceLeDiff, Nat.reduceBEq, Nat.reduceSub, Int.reduceSub, Int.reduceMul, Int.reduceNeg, Int.reduceAdd]
      refine Cont.mk (hkb' _ sb kb hm hmo (sbA _) (kbA _) hne) ?_
      rw [hkl']
      simp (maxSteps := 2000000) (disch := omega) only [hq, go_sem, eq_self, if_true, if_false, reduceCtorEq, Int.reduceToNat, Int.reducePow, Nat.reducePow, Nat.reduceMul, Int.reduceLT, Int.reduceLE, Nat.reduceAdd, Nat.reduceLeDiff, Nat.reduceBEq, Nat.reduceSub, Int.reduceSub, Int.reduceMul, Int.reduceNeg, Int.reduceAdd]
      refine Cont.mk (hfc _) ?_
      simp (maxSteps := 2000000) (disch := omega) only [go_sem, eq_self, if_true, if_false, reduceCtorEq, Int.reduceToNat, Int.reducePow, Nat.reducePow, Nat.reduceMul, Int.reduceLT, Int.reduceLE, Nat.reduceAdd, Nat.reduceLeDiff, Nat.reduceBEq, Nat.reduceSub, Int.reduceSub, Int.reduceMul, Int.reduceNeg, Int.reduceAdd]
      refine Cont.mk (laid_c ht hg hlf hpf hkf hzb.1 (by omega) hm1 hmo1 (sb3 _ _) (kb3 _ _) hne) ?_
      rw [hks]
      simp (maxSteps := 2000000) (disch := omega) only [hq, go_sem, eq_self, if_true, if_false, reduceCtorEq, Int.reduceToNat, Int.reducePow, Nat.reducePow, Nat.reduceMul, Int.reduceLT, Int.reduceLE, Nat.reduceAdd, Nat.reduceLeDiff, Nat.reduceBEq, Nat.reduceSub, Int.reduceSub, Int.reduceMul, Int.reduceNeg, Int.reduceAdd]
      refine Cont.mk (rup_c (by omega) (by omega) _) ?_
      simp (maxSteps := 2000000) (disch := omega) only [hcut, go_sem, eq_self, if_true, if_false, reduceCtorEq, Int.reduceToNat, Int.reducePow, Nat.reducePow, Nat.reduceMul, Int.reduceLT, Int.reduceLE, Nat.reduceAdd, Nat.reduceLeDiff, Nat.reduceBEq, Nat.reduceSub, Int.reduceSub, Int.reduceMul, Int.reduceNeg, Int.reduceAdd]
      exact fin _ _ (by (try simp only [List.replicate, List.cons_append, List.nil_append]); repeat' first | exact WkL.nil | refine WkL.cons (Wk1.rfl _) ?_ | refine WkL.cons Wk1.esl ?_ | refine WkL.cons (Wk1.gsl _ _ _) ?_ | refine WkL.cons (Wk1.any _) ?_)
  rintro s H2 ⟨rfl, rfl⟩
  refine wpA.W ?_
  have hkb2 : ∀ x, (H'.set kb x)[kb]? = some x := fun x => List.getElem?_set_self hkl
  have hsb2 : ∀ x, (H'.set kb x)[sb]? = some (sbB t kb) := fun x => by rw [List.getElem?_set_ne hne.symm]; exact hsb
  have hss : ∀ x y : ABlk, (H'.set kb x).set kb y = H'.set kb y := fun x y => List.set_set ..
  have hsp : List.take a.toNat (F.map iv) ++ iv (szF t a + 1) :: List.drop (a.toNat + 1) (F.map iv) = (updM t (KR t) m a).map iv := by
    rw [← hFn, ← List.map_take, ← List.map_drop, List.set_eq_take_append_cons_drop, if_pos (by omega), List.map_append, List.map_cons]
  simp (maxSteps := 2000000) (disch := omega) only [hkb2, hsb2, hix, hss, hsp, go_sem, eq_self, if_true, if_false, reduceCtorEq, Int.reduceToNat, Int.reducePow, Nat.reducePow, Nat.reduceMul, Int.reduceLT, Int.reduceLE, Nat.reduceAdd, Nat.reduceLeDiff, Nat.reduceBEq, Nat.reduceSub, Int.reduceSub, Int.reduceMul, Int.reduceNeg, Int.reduceAdd]
  exact Ret.keep ⟨rfl, rfl⟩
theorem rsize_k {t : List Ty} (ht : TT t) (hg : GoodP t) {a : Int} (hac : Acc (LR t) a) : placeP t a → RSizeK t a := by
  induction hac with
  | intro a hacc ih =>
  intro ha
  exact rsize_c ht hg ha fun y hy => ih y hy (hg.kidZ ha (KR_sub hy))
theorem GoodP.rsizeK {t : List Ty} (hg : GoodP t) (ht : TT t) {a : Int} (ha : placeP t a) : RSizeK t a := rsize_k ht hg (accR (hg.acc _ ha.1 ha.2)) ha
abbrev rz0 (t : List Ty) : List Int := List.replicate t.length 0
/-- A new sizer: its kept sizes, itself. -/
theorem newsizer_c {t : List Ty} (hs : t.length ≤ 300) (H : List ABlk) : ACalls Try.prog 45 [tv t] H fun v H' => v = .ptr (H.length + 1) 0 ∧ H' = H ++ [kbB (rz0 t), sbB t H.length] := by
  refine ACalls.into Try.func45 cc45 rr45 fun hcl => ?_
  have e : (List.replicate t.length [iv 0]).flatten = (rz0 t).map iv := rep_flat _
  simp (maxSteps := 2000000) (disch := omega) only [Try.ntmps45, c45, r45, List.length_map, go_sem, eq_self, if_true, if_false, reduceCtorEq, Int.reduceToNat, Int.reducePow, Nat.reducePow, Nat.reduceMul, Int.reduceLT, Int.reduceLE, Nat.reduceAdd, Nat.reduceLeDiff, Nat.reduceBEq, Nat.reduceSub, Int.reduceSub, Int.reduceMul, Int.reduceNeg, Int.reduceAdd]
  rw [e]
  exact Ret.keep ⟨rfl, rfl⟩
end Go.Proofs.Ytlhpcccffmfopaa

/- The reference's Size, Vars. -/
namespace Go.Proofs.Ytlhpcccffmfopaa
set_option linter.unusedVariables false
set_option linter.unusedSimpArgs false
set_option linter.unusedSectionVars false
set_option linter.unusedSimpArgs false
set_option linter.unusedVariables false
set_option maxRecDepth 20000
set_option maxHeartbeats 4000000
open Go.RowKit

theorem nz_at (H : List ABlk) (a b : ABlk) : (H ++ [a, b])[H.length]? = some a ∧ (H ++ [a, b])[H.length + 1]? = some b := by
  constructor
  · rw [List.getElem?_append_right (Nat.le_refl _)]; simp
  · rw [List.getElem?_append_right (by omega)]; simp
theorem nz_set (H : List ABlk) (a b c : ABlk) : (H ++ [a, b]).set H.length c = H ++ [c, b] := by
  rw [List.set_append_right _ _ (Nat.le_refl _)]; simp
theorem rsz_c {t : List Ty} (ht : TT t) (a : Int) (H : List ABlk) : ACalls Try.prog 27 [tv t, iv a] H fun v H' => v = iv (szL t a) ∧ H' = H := by
  refine ACalls.into Try.func27 cc27 rr27 fun hcl => ?_
  have fin : ∀ n, n = szL t a → ∀ l, Ret r27 H.length (fun v H' => v = iv (szL t a) ∧ H' = H) (some (iv n)) (H ++ l) := fun n e l => by
    rw [e]; exact Ret.drop _ H (Nat.le_refl _) hcl (.rfl _) (by simp [refs]) ⟨rfl, rfl⟩
  have fin0 : ∀ n, n = szL t a → Ret r27 H.length (fun v H' => v = iv (szL t a) ∧ H' = H) (some (iv n)) H := fun n e => by
    rw [e]; exact Ret.keep ⟨rfl, rfl⟩
  have htl := ht.s.1
  have no : ¬ placeP t a → (0 : Int) = szL t a := fun h => by rw [szL, if_neg fun k => h k.2]
  by_cases a0 : a < 0
  · simp (maxSteps := 2000000) (disch := omega) only [Try.ntmps27, c27, r27, go_sem, eq_self, if_true, if_false, reduceCtorEq, Int.reduceToNat, Int.reducePow, Nat.reducePow, Nat.reduceMul, Int.reduceLT, Int.reduceLE, Nat.reduceAdd, Nat.reduceLeDiff, Nat.reduceBEq, Nat.reduceSub, Int.reduceSub, Int.reduceMul, Int.reduceNeg, Int.reduceAdd]
    exact fin0 0 (no fun h => by have := h.1; omega)
  by_cases a1 : a < t.length
  rotate_left
  · simp (maxSteps := 2000000) (disch := omega) only [Try.ntmps27, c27, r27, List.length_map, go_sem, eq_self, if_true, if_false, reduceCtorEq, Int.reduceToNat, Int.reducePow, Nat.reducePow, Nat.reduceMul, Int.reduceLT, Int.reduceLE, Nat.reduceAdd, Nat.reduceLeDiff, Nat.reduceBEq, Nat.reduceSub, Int.reduceSub, Int.reduceMul, Int.reduceNeg, Int.reduceAdd]
    exact fin0 0 (no fun h => a1 h.2)
  have ha : placeP t a := ⟨by omega, a1⟩
  simp (maxSteps := 2000000) (disch := omega) only [Try.ntmps27, c27, r27, List.length_map, go_sem, eq_self, if_true, if_false, reduceCtorEq, Int.reduceToNat, Int.reducePow, Nat.reducePow, Nat.reduceMul, Int.reduceLT, Int.reduceLE, Nat.reduceAdd, Nat.reduceLeDiff, Nat.reduceBEq, Nat.reduceSub, Int.reduceSub, Int.reduceMul, Int.reduceNeg, Int.reduceAdd]
  refine Cont.mk (rgood_c ht.s ht.n ht.k _) ?_
  by_cases hg : GoodP t
  rotate_left
  · rw [good_f hg]
    simp (maxSteps := 2000000) (disch := omega) only [go_sem, eq_self, if_true, if_false, reduceCtorEq, Int.reduceToNat, Int.reducePow, Nat.reducePow, Nat.reduceMul, Int.reduceLT, Int.reduceLE, Nat.reduceAdd, Nat.reduceLeDiff, Nat.reduceBEq, Nat.reduceSub, Int.reduceSub, Int.reduceMul, Int.reduceNeg, Int.reduceAdd]
    exact fin0 0 (by rw [szL, if_neg fun h => hg h.1])
  rw [good_t hg]
  simp (maxSteps := 2000000) (disch := omega) only [go_sem, eq_self, if_true, if_false, reduceCtorEq, Int.reduceToNat, Int.reducePow, Nat.reducePow, Nat.reduceMul, Int.reduceLT, Int.reduceLE, Nat.reduceAdd, Nat.reduceLeDiff, Nat.reduceBEq, Nat.reduceSub, Int.reduceSub, Int.reduceMul, Int.reduceNeg, Int.reduceAdd]
  refine Cont.mk (newsizer_c htl _) ?_
  simp (maxSteps := 2000000) (disch := omega) only [go_sem, eq_self, if_true, if_false, reduceCtorEq, Int.reduceToNat, Int.reducePow, Nat.reducePow, Nat.reduceMul, Int.reduceLT, Int.reduceLE, Nat.reduceAdd, Nat.reduceLeDiff, Nat.reduceBEq, Nat.reduceSub, Int.reduceSub, Int.reduceMul, Int.reduceNeg, Int.reduceAdd]
  refine Cont.mk (hg.rsizeK ht ha (rz0 t) _ (H.length + 1) H.length (by simp) (.zero _) (nz_at ..).2 (nz_at ..).1 (by omega)) ?_
  rw [nz_set]
  simp (maxSteps := 2000000) (disch := omega) only [go_sem, eq_self, if_true, if_false, reduceCtorEq, Int.reduceToNat, Int.reducePow, Nat.reducePow, Nat.reduceMul, Int.reduceLT, Int.reduceLE, Nat.reduceAdd, Nat.reduceLeDiff, Nat.reduceBEq, Nat.reduceSub, Int.reduceSub, Int.reduceMul, Int.reduceNeg, Int.reduceAdd]
  exact fin _ (by rw [szL, if_pos ⟨hg, ha⟩]) _
/-- Where variables lie, and how many bytes they need. -/
def VarsP (t : List Ty) (l : List Int) : Prop := GoodP t ∧ (∀ y ∈ l, placeP t y) ∧ upI (endR t (szF t) 0 l) ≤ 32768
open Classical in
noncomputable def varsL (t : List Ty) (l : List Int) : List Int := if VarsP t l then atsR t (szF t) 0 l else []
open Classical in
noncomputable def varsN (t : List Ty) (l : List Int) : Int := if VarsP t l then upI (endR t (szF t) 0 l) else 0
abbrev VarsR (t : List Ty) (l : List Int) (H : List ABlk) (v : AV) (H' : List ABlk) : Prop := v = .tup [.d (.sl ((varsL t l).map kd)), iv (varsN t l)] ∧ H' = H
theorem tup2 {x y z : AV} (h : Wk1 x y) : Wk1 (.tup [x, z]) (.tup [y, z]) := .tup rfl fun i c c' h1 h2 => by
  match i, h1, h2 with
  | 0, h1, h2 => cases h1; cases h2; exact h
  | 1, h1, h2 => cases h1; cases h2; exact .rfl _
theorem vars_no {t : List Ty} {l : List Int} {H : List ABlk} (hcl : cl H) (h : ¬ VarsP t l) (rs : List RC) : ∀ tl, Ret rs H.length (VarsR t l H) (some (.tup [.esl, iv 0])) (H ++ tl) := fun tl =>
  Ret.drop (.tup [.d (.sl ((varsL t l).map kd)), iv (varsN t l)]) H (Nat.le_refl _) hcl (by rw [varsL, varsN, if_neg h, if_neg h]; exact tup2 .esl) (by simp [refs, refs.refsL]) ⟨rfl, rfl⟩
theorem rvars_c {t : List Ty} (ht : TT t) {l : List Int} (hl : l.length ≤ 3000) (H : List ABlk) : ACalls Try.prog 31 [tv t, .d (.sl (l.map kd))] H (VarsR t l H) := by
  refine ACalls.into Try.func31 cc31 rr31 fun hcl => ?_
  have htl := ht.s.1
  have no : ¬ VarsP t l → ∀ tl, Ret r31 H.length (VarsR t l H) (some (.tup [.esl, iv 0])) (H ++ tl) := fun h tl => vars_no hcl h _ tl
  have no0 : ¬ VarsP t l → Ret r31 H.length (VarsR t l H) (some (.tup [.esl, iv 0])) H := fun h => by
    have := no h []
    rwa [List.append_nil] at this
  simp (maxSteps := 2000000) (disch := omega) only [Try.ntmps31, c31, r31, List.length_map, go_sem, eq_self, if_true, if_false, reduceCtorEq, Int.reduceToNat, Int.reducePow, Nat.reducePow, Nat.reduceMul, Int.reduceLT, Int.reduceLE, Nat.reduceAdd, Nat.reduceLeDiff, Nat.reduceBEq, Nat.reduceSub, Int.reduceSub, Int.reduceMul, Int.reduceNeg, Int.reduceAdd]
  refine Cont.mk (rgood_c ht.s ht.n ht.k _) ?_
  by_cases hg : GoodP t
  rotate_left
  · rw [good_f hg]
    simp (maxSteps := 2000000) (disch := omega) only [go_sem, eq_self, if_true, if_false, reduceCtorEq, Int.reduceToNat, Int.reducePow, Nat.reducePow, Nat.reduceMul, Int.reduceLT, Int.reduceLE, Nat.reduceAdd, Nat.reduceLeDiff, Nat.reduceBEq, Nat.reduceSub, Int.reduceSub, Int.reduceMul, Int.reduceNeg, Int.reduceAdd]
    exact no0 fun h => hg h.1
  rw [good_t hg]
  simp (maxSteps := 2000000) (disch := omega) only [go_sem, eq_self, if_true, if_false, reduceCtorEq, Int.reduceToNat, Int.reducePow, Nat.reducePow, Nat.reduceMul, Int.reduceLT, Int.reduceLE, Nat.reduceAdd, Nat.reduceLeDiff, Nat.reduceBEq, Nat.reduceSub, Int.reduceSub, Int.reduceMul, Int.reduceNeg, Int.reduceAdd]
  refine W.loopG (γ := Nat) (fun i => l.length - i) (fun i => [tv t, .d (.sl (l.map kd)), .any, .any, .esl, iv 0, iv i] ++ List.replicate 38 .any) (fun _ => H) (fun i => i ≤ l.length ∧ ∀ j, j < i → placeP t (l.getD j 0)) 0 (Wk.slots (by (try simp only [List.replicate, List.cons_append, List.nil_append]); repeat' first | exact WkL.nil | refine WkL.cons (Wk1.rfl _) ?_ | refine WkL.cons Wk1.esl ?_ | refine WkL.cons (Wk1.gsl _ _ _) ?_ | refine WkL.cons (Wk1.any _) ?_)) ⟨by omega, fun j hj => by omega⟩ (fun i hi => ?_)
  obtain ⟨q1, q2⟩ := hi
  simp (maxSteps := 2000000) (disch := omega) only [c31l0, List.length_map, go_sem, eq_self, if_true, if_false, reduceCtorEq, Int.reduceToNat, Int.reducePow, Nat.reducePow, Nat.reduceMul, Int.reduceLT, Int.reduceLE, Nat.reduceAdd, Nat.reduceLeDiff, Nat.reduceBEq, Nat.reduceSub, Int.reduceSub, Int.reduceMul, Int.reduceNeg, Int.reduceAdd]
  refine Br.dec (fun hc => ?_) (fun hc => ?_) <;> simp (maxSteps := 2000000) (disch := omega) only [go_sem, eq_self, if_true, if_false, reduceCtorEq, Int.reduceToNat, Int.reducePow, Nat.reducePow, Nat.reduceMul, Int.reduceLT, Int.reduceLE, Nat.reduceAdd, Nat.reduceLeDiff, Nat.reduceBEq, Nat.reduceSub, Int.reduceSub, Int.reduceMul, Int.reduceNeg, Int.reduceAdd]
  · have hia := iaA_map (n := 1) kd 0 (l := l) (a := (i : Int)) (by omega) (by omega) rfl
    rw [Int.toNat_natCast] at hia
    have hm : l.getD i 0 ∈ l := by rw [List.getD_eq_getElem?_getD, List.getElem?_eq_getElem (by omega)]; exact List.getElem_mem _
    generalize hx : l.getD i 0 = x at *
    by_cases p1 : x < 0
    · simp (maxSteps := 2000000) (disch := omega) only [hia, List.length_map, go_sem, eq_self, if_true, if_false, reduceCtorEq, Int.reduceToNat, Int.reducePow, Nat.reducePow, Nat.reduceMul, Int.reduceLT, Int.reduceLE, Nat.reduceAdd, Nat.reduceLeDiff, Nat.reduceBEq, Nat.reduceSub, Int.reduceSub, Int.reduceMul, Int.reduceNeg, Int.reduceAdd]
      exact no0 fun h => by have := (h.2.1 x hm).1; omega
    by_cases p2 : x < t.length
    · simp (maxSteps := 2000000) (disch := omega) only [hia, List.length_map, go_sem, eq_self, if_true, if_false, reduceCtorEq, Int.reduceToNat, Int.reducePow, Nat.reducePow, Nat.reduceMul, Int.reduceLT, Int.reduceLE, Nat.reduceAdd, Nat.reduceLeDiff, Nat.reduceBEq, Nat.reduceSub, Int.reduceSub, Int.reduceMul, Int.reduceNeg, Int.reduceAdd]
      refine Nxt.mk (i + 1) (by omega) (Wk.slots (by (try simp only [List.replicate, List.cons_append, List.nil_append]); repeat' first | exact WkL.nil | refine WkL.cons (Wk1.rfl _) ?_ | refine WkL.cons Wk1.esl ?_ | refine WkL.cons (Wk1.gsl _ _ _) ?_ | refine WkL.cons (Wk1.any _) ?_)) ⟨by omega, fun j hj => ?_⟩
      rcases Nat.lt_or_ge j i with h | h
      · exact q2 j h
      · rw [show j = i by omega, hx]; exact ⟨by omega, p2⟩
    · simp (maxSteps := 2000000) (disch := omega) only [hia, List.length_map, go_sem, eq_self, if_true, if_false, reduceCtorEq, Int.reduceToNat, Int.reducePow, Nat.reducePow, Nat.reduceMul, Int.reduceLT, Int.reduceLE, Nat.reduceAdd, Nat.reduceLeDiff, Nat.reduceBEq, Nat.reduceSub, Int.reduceSub, Int.reduceMul, Int.reduceNeg, Int.reduceAdd]
      exact no0 fun h => p2 (h.2.1 x hm).2
  · have hpl : ∀ y ∈ l, placeP t y := fun y hy => by
      obtain ⟨j, hj, rfl⟩ := List.getElem_of_mem hy
      have := q2 j (by omega)
      rwa [List.getD_eq_getElem?_getD, List.getElem?_eq_getElem hj] at this
    have her := endR_rng (t := t) (g := szF t) (l := l) (n := 0) (fun y hy => (hg.sz (hpl y hy)).1) ⟨by omega, by omega⟩
    refine Cont.mk (newsizer_c htl _) ?_
    simp (maxSteps := 2000000) (disch := omega) only [go_sem, eq_self, if_true, if_false, reduceCtorEq, Int.reduceToNat, Int.reducePow, Nat.reducePow, Nat.reduceMul, Int.reduceLT, Int.reduceLE, Nat.reduceAdd, Nat.reduceLeDiff, Nat.reduceBEq, Nat.reduceSub, Int.reduceSub, Int.reduceMul, Int.reduceNeg, Int.reduceAdd]
    refine Cont.mk (laid_c ht hg hl hpl (fun y hy => hg.rsizeK ht (hpl y hy)) (Int.le_refl 0) (by omega) (m := rz0 t) (sb := H.length + 1) (kb := H.length) (by simp) (.zero _) (nz_at ..).2 (nz_at ..).1 (by omega)) ?_
    rw [nz_set]
    simp (maxSteps := 2000000) (disch := omega) only [go_sem, eq_self, if_true, if_false, reduceCtorEq, Int.reduceToNat, Int.reducePow, Nat.reducePow, Nat.reduceMul, Int.reduceLT, Int.reduceLE, Nat.reduceAdd, Nat.reduceLeDiff, Nat.reduceBEq, Nat.reduceSub, Int.reduceSub, Int.reduceMul, Int.reduceNeg, Int.reduceAdd]
    refine Cont.mk (rup_c (by omega) (by omega) _) ?_
    by_cases hmx : upI (endR t (szF t) 0 l) ≤ 32768
    · simp (maxSteps := 2000000) (disch := omega) only [go_sem, eq_self, if_true, if_false, reduceCtorEq, Int.reduceToNat, Int.reducePow, Nat.reducePow, Nat.reduceMul, Int.reduceLT, Int.reduceLE, Nat.reduceAdd, Nat.reduceLeDiff, Nat.reduceBEq, Nat.reduceSub, Int.reduceSub, Int.reduceMul, Int.reduceNeg, Int.reduceAdd]
      refine Cont.mk (rup_c (by omega) (by omega) _) ?_
      simp (maxSteps := 2000000) (disch := omega) only [go_sem, eq_self, if_true, if_false, reduceCtorEq, Int.reduceToNat, Int.reducePow, Nat.reducePow, Nat.reduceMul, Int.reduceLT, Int.reduceLE, Nat.reduceAdd, Nat.reduceLeDiff, Nat.reduceBEq, Nat.reduceSub, Int.reduceSub, Int.reduceMul, Int.reduceNeg, Int.reduceAdd]
      exact Ret.drop (.tup [.d (.sl ((varsL t l).map kd)), iv (varsN t l)]) H (Nat.le_refl _) hcl (by rw [varsL, varsN, if_pos ⟨hg, hpl, hmx⟩, if_pos ⟨hg, hpl, hmx⟩]; exact .rfl _) (by simp [refs, refs.refsL]) ⟨rfl, rfl⟩
    · simp (maxSteps := 2000000) (disch := omega) only [go_sem, eq_self, if_true, if_false, reduceCtorEq, Int.reduceToNat, Int.reducePow, Nat.reducePow, Nat.reduceMul, Int.reduceLT, Int.reduceLE, Nat.reduceAdd, Nat.reduceLeDiff, Nat.reduceBEq, Nat.reduceSub, Int.reduceSub, Int.reduceMul, Int.reduceNeg, Int.reduceAdd]
      exact no (fun h => hmx h.2.2) _
end Go.Proofs.Ytlhpcccffmfopaa
