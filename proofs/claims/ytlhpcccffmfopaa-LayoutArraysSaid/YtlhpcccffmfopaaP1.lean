/- Plain law: a walk through what lies in types ends just where nothing lies in itself. -/
import Derived.Test.YtlhpcccffmfopaaT3
namespace Go.Proofs.Ytlhpcccffmfopaa
set_option linter.unusedSectionVars false
set_option linter.unusedSimpArgs false
set_option linter.unusedVariables false
open Relation

section
variable {R : Int → Int → Prop}
theorem acc_irr {r : Int → Int → Prop} {a : Int} (h : Acc r a) : ¬ r a a := by
  induction h with
  | intro x _ ih => exact fun hx => ih x hx hx
theorem acc_loop {a : Int} (h : TransGen R a a) : ¬ Acc R a := fun ha => acc_irr ha.transGen h

def mt (m : List Int) (x : Int) : Int := m.getD x.toNat 0
def setM (m : List Int) (x v : Int) : List Int := m.set x.toNat v
theorem mt_set {m : List Int} {x y v : Int} (hx : 0 ≤ x ∧ x < m.length) (hy : 0 ≤ y) : mt (setM m x v) y = if x = y then v else mt m y := by
  simp only [mt, setM, List.getD_eq_getElem?_getD]
  by_cases h : x = y
  · subst h
    rw [List.getElem?_set_self (by omega), if_pos rfl]; rfl
  · rw [List.getElem?_set_ne (by omega), if_neg h]
theorem setM_len {m : List Int} {x v : Int} : (setM m x v).length = m.length := List.length_set
def zc (m : List Int) : Nat := m.countP fun v => v == 0
theorem zc_set : ∀ {m : List Int} {i : Nat} {v : Int}, i < m.length → m.getD i 0 = 0 → v ≠ 0 → zc (m.set i v) + 1 = zc m
  | x :: m, 0, v, _, h, hv => by
    simp only [List.getD_cons_zero] at h
    subst h
    simp only [zc, List.set_cons_zero, List.countP_cons]
    simp [hv]
  | x :: m, i + 1, v, hi, h, hv => by
    have := zc_set (m := m) (i := i) (v := v) (by simpa using hi) (by simpa using h) hv
    simp only [zc, List.set_cons_succ, List.countP_cons] at this ⊢
    omega
theorem zc_le : ∀ {m m' : List Int}, m.length = m'.length → (∀ i : Nat, m.getD i 0 ≠ 0 → m'.getD i 0 ≠ 0) → zc m' ≤ zc m
  | [], [], _, _ => Nat.le_refl _
  | x :: m, y :: m', hl, h => by
    have h0 := h 0
    have := zc_le (m := m) (m' := m') (by simpa using hl) fun i => by have := h (i + 1); simpa using this
    simp only [zc, List.countP_cons, List.getD_cons_zero] at this h0 ⊢
    by_cases hx : x = 0
    · simp [hx]; split <;> omega
    · have := h0 hx
      simp [hx, this]; omega

/-- What has been met. -/
structure Met (R : Int → Int → Prop) (n : Nat) (m : List Int) : Prop where
  len : m.length = n
  st : ∀ x : Int, 0 ≤ x → x < n → mt m x = 0 ∨ mt m x = 1 ∨ mt m x = 2
  fin : ∀ x : Int, 0 ≤ x → x < n → mt m x = 2 → Acc R x
/-- Those on the way lead to a. -/
def Way (R : Int → Int → Prop) (n : Nat) (m : List Int) (a : Int) : Prop := ∀ x : Int, 0 ≤ x → x < n → mt m x = 1 → TransGen R a x
/-- What a walk leaves. -/
structure Left (n : Nat) (m m' : List Int) : Prop where
  old : ∀ x : Int, 0 ≤ x → x < n → mt m x ≠ 0 → mt m' x = mt m x
  one : ∀ x : Int, 0 ≤ x → x < n → mt m' x = 1 → mt m x = 1
theorem Left.rfl {n : Nat} {m : List Int} : Left n m m := ⟨fun _ _ _ _ => Eq.refl _, fun _ _ _ h => h⟩
theorem Left.trans {n : Nat} {m m1 m2 : List Int} (h : Left n m m1) (k : Left n m1 m2) : Left n m m2 :=
  ⟨fun x h0 h1 hx => by rw [k.old x h0 h1 (by rw [h.old x h0 h1 hx]; exact hx), h.old x h0 h1 hx], fun x h0 h1 hx => h.one x h0 h1 (k.one x h0 h1 hx)⟩
theorem Left.zc {n : Nat} {m m' : List Int} (h : Left n m m') (hl : m.length = n) (hl' : m'.length = n) : zc m' ≤ zc m :=
  zc_le (by rw [hl, hl']) fun i hi => by
    rcases Nat.lt_or_ge i n with hn | hn
    · have := h.old i (by omega) (by omega)
      simp only [mt, Int.toNat_natCast] at this
      rw [this hi]; exact hi
    · exact absurd (by rw [List.getD_eq_getElem?_getD, List.getElem?_eq_none (by omega)]; rfl) hi
theorem Met.go {n : Nat} {m : List Int} {a : Int} (h : Met R n m) (ha : 0 ≤ a ∧ a < n) (h0 : mt m a = 0) : Met R n (setM m a 1) := by
  have hl := h.len
  refine ⟨by rw [setM_len, hl], fun x h1 h2 => ?_, fun x h1 h2 => ?_⟩
  · rw [mt_set (by omega) h1]; split
    · exact .inr (.inl rfl)
    · exact h.st x h1 h2
  · rw [mt_set (by omega) h1]; split
    · exact fun e => by cases e
    · exact h.fin x h1 h2
theorem Met.one {n : Nat} {m : List Int} {a : Int} (h : Met R n m) (ha : 0 ≤ a ∧ a < n) (hw : Way R n m a) (h1 : mt m a = 1) : ¬ Acc R a := acc_loop (hw a ha.1 ha.2 h1)
theorem Way.kid {n : Nat} {m m' : List Int} {a k : Int} (hl : m.length = n) (ha : 0 ≤ a ∧ a < n) (h : Way R n m a) (hL : Left n (setM m a 1) m') (hk : R k a) : Way R n m' k := fun x h0 h1 hx => by
  have := hL.one x h0 h1 hx
  rw [mt_set (by omega) h0] at this
  split at this
  · rename_i e; subst e; exact .single hk
  · exact (TransGen.single hk).trans (h x h0 h1 this)
theorem Met.done {n : Nat} {m m' : List Int} {a : Int} (hl : m.length = n) (h : Met R n m') (ha : 0 ≤ a ∧ a < n) (h0 : mt m a = 0) (hL : Left n (setM m a 1) m') (hA : Acc R a) : Met R n (setM m' a 2) ∧ Left n m (setM m' a 2) := by
  have hl' := h.len
  refine ⟨⟨by rw [setM_len, hl'], fun x h1 h2 => ?_, fun x h1 h2 => ?_⟩, fun x h1 h2 hx => ?_, fun x h1 h2 => ?_⟩
  · rw [mt_set (by omega) h1]; split
    · exact .inr (.inr rfl)
    · exact h.st x h1 h2
  · rw [mt_set (by omega) h1]; split
    · rename_i e; subst e; exact fun _ => hA
    · exact h.fin x h1 h2
  · rw [mt_set (by omega) h1]
    have hne : a ≠ x := fun e => hx (by rw [← e]; exact h0)
    rw [if_neg hne]
    have := hL.old x h1 h2
    rw [mt_set (by omega) h1, if_neg hne] at this
    exact this hx
  · rw [mt_set (by omega) h1]
    split
    · exact fun e => by cases e
    · rename_i hne
      intro hx
      have := hL.one x h1 h2 hx
      rwa [mt_set (by omega) h1, if_neg hne] at this
theorem Met.zero {n : Nat} : Met R n (List.replicate n 0) := by
  have : ∀ x, mt (List.replicate n 0) x = 0 := fun x => by
    simp only [mt, List.getD_eq_getElem?_getD, List.getElem?_replicate]; split <;> rfl
  exact ⟨by simp, fun x _ _ => .inl (this x), fun x _ _ h => by rw [this] at h; cases h⟩
theorem Way.none {n : Nat} {m : List Int} {a : Int} (h : ∀ x : Int, 0 ≤ x → x < n → mt m x ≠ 1) : Way R n m a := fun x h0 h1 hx => absurd hx (h x h0 h1)
theorem Left.none {n : Nat} {m m' : List Int} (h : Left n m m') (h1 : ∀ x : Int, 0 ≤ x → x < n → mt m x ≠ 1) : ∀ x : Int, 0 ≤ x → x < n → mt m' x ≠ 1 := fun x h0 h2 hx => h1 x h0 h2 (h.one x h0 h2 hx)
end

/-! ### tables -/
/-- What lies in a type. -/
def kidsC (t : List Ty) (a : Int) : List Int :=
  if (tyAt t a).form = 7 ∨ (tyAt t a).form = 8 then [(tyAt t a).elem] else if (tyAt t a).form = 9 then (tyAt t a).base :: (tyAt t a).fields.map Fd.typ else []
def kidsR (t : List Ty) (a : Int) : List Int :=
  if (tyAt t a).form = 7 ∨ (tyAt t a).form = 8 then [(tyAt t a).elem] else if (tyAt t a).form = 9 then (if (tyAt t a).base = 0 then [] else [(tyAt t a).base]) ++ (tyAt t a).fields.map Fd.typ else []
abbrev KdC (t : List Ty) (y x : Int) : Prop := y ∈ kidsC t x
abbrev KdR (t : List Ty) (y x : Int) : Prop := y ∈ kidsR t x
theorem kids_sub {t : List Ty} {y x : Int} (h : KdR t y x) : KdC t y x := by
  simp only [KdR, kidsR, KdC, kidsC] at h ⊢
  split
  · rename_i h1; rwa [if_pos h1] at h
  · rename_i h1
    rw [if_neg h1] at h
    split
    · rename_i h2
      rw [if_pos h2] at h
      split at h
      · exact List.mem_cons_of_mem _ (by simpa using h)
      · simpa using h
    · rename_i h2; rwa [if_neg h2] at h
theorem kids_sup {t : List Ty} {y x : Int} (h : KdC t y x) : KdR t y x ∨ y = 0 := by
  simp only [KdR, kidsR, KdC, kidsC] at h ⊢
  split
  · rename_i h1; rw [if_pos h1] at h; exact .inl h
  · rename_i h1
    rw [if_neg h1] at h
    split
    · rename_i h2
      rw [if_pos h2] at h
      rcases List.mem_cons.1 h with h | h
      · subst h
        split
        · rename_i h3; exact .inr h3
        · exact .inl (by simp)
      · exact .inl (List.mem_append_right _ h)
    · rename_i h2; rw [if_neg h2] at h; exact .inl h
theorem acc_CR {t : List Ty} (h0 : (tyAt t 0).form = 0) {a : Int} : Acc (KdC t) a ↔ Acc (KdR t) a := by
  constructor
  · intro h
    induction h with
    | intro x _ ih => exact .intro x fun y hy => ih y (kids_sub hy)
  · intro h
    have hz : Acc (KdC t) 0 := .intro 0 fun y hy => by
      simp only [KdC, kidsC, h0] at hy
      simp at hy
    induction h with
    | intro x _ ih => exact .intro x fun y hy => (kids_sup hy).elim (ih y) fun e => e ▸ hz
end Go.Proofs.Ytlhpcccffmfopaa
