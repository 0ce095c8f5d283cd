/- The plain law of scopes, and where a scope lies. -/
import Derived.Test.YthgffjaiklmbcaaWk1
namespace Go.Proofs.Ythgffjaiklmbcaa
set_option linter.unusedSimpArgs false
set_option linter.unusedVariables false
open Go.RowKit

/-- A level: its names, and what they stand for. -/
abbrev Lv := List (ByteArray × Int)
def lvGet (l : Lv) (s : ByteArray) : Option Int := (idxS (l.map (·.1)) s).map fun i => (l.map (·.2)).getD i 0

theorem lvGet_nil (s : ByteArray) : lvGet [] s = none := rfl
theorem lvGet_cons (x : ByteArray × Int) (l : Lv) (s : ByteArray) : lvGet (x :: l) s = if x.1 = s then some x.2 else lvGet l s := by
  simp only [lvGet, List.map_cons, idxS]
  split
  · rfl
  · rw [Option.map_map]
    congr 1
theorem lvGet_app (l : Lv) (t : ByteArray) (n : Int) (s : ByteArray) : lvGet (l ++ [(t, n)]) s = match lvGet l s with
    | some m => some m
    | none => if t = s then some n else none := by
  induction l with
  | nil => rw [List.nil_append, lvGet_cons, lvGet_nil]
  | cons x l ih =>
    rw [List.cons_append, lvGet_cons, lvGet_cons, ih]
    split <;> rfl
theorem lvGet_mem {l : Lv} {s : ByteArray} : lvGet l s = none ↔ s ∉ l.map (·.1) := by
  induction l with
  | nil => simp [lvGet_nil]
  | cons x l ih =>
    rw [lvGet_cons]
    by_cases h : x.1 = s
    · simp [h]
    · rw [if_neg h, ih]; simp [Ne.symm h, eq_comm, h]

/-! the map's entries -/
def key (k : Int) (s : ByteArray) : Value := .agg #[.int .i64 k, .string s]
structure En where
  k : Int
  s : ByteArray
  n : Int
  t : Nat
def En.e (x : En) : Value × AV × Nat := (key x.k x.s, iv x.n, x.t)
def getE : List En → Int → ByteArray → Option En
  | [], _, _ => none
  | x :: r, k, s => if x.k = k ∧ x.s = s then some x else getE r k s
def delE : List En → Int → ByteArray → List En
  | [], _, _ => []
  | x :: r, k, s => if x.k = k ∧ x.s = s then r else x :: delE r k s
theorem keq_key (a b : Int) (s t : ByteArray) : keq (key a s) (key b t) = decide (a = b ∧ s = t) := by
  simp only [keq, key, keqL, keq1, beq_self_eq_true, Bool.true_and, Bool.and_true]
  by_cases h : a = b <;> by_cases h' : s = t <;> simp [h, h']
theorem mapGet_E (E : List En) (k : Int) (s : ByteArray) : mapGet (E.map En.e) (key k s) = (getE E k s).map fun x => (iv x.n, x.t) := by
  induction E with
  | nil => rfl
  | cons x E ih =>
    simp only [List.map_cons, mapGet, getE, En.e, keq_key, decide_eq_true_eq]
    split
    · rfl
    · exact ih
theorem mapDel_E (E : List En) (k : Int) (s : ByteArray) : mapDel (E.map En.e) (key k s) = (delE E k s).map En.e := by
  induction E with
  | nil => rfl
  | cons x E ih =>
    simp only [List.map_cons, mapDel, delE, En.e, keq_key, decide_eq_true_eq]
    split
    · rfl
    · simp only [List.map_cons, En.e]; rw [ih]
def EN (E : List En) : Prop := (E.map fun x => (x.k, x.s)).Nodup
theorem getE_mem {E : List En} {k : Int} {s : ByteArray} : getE E k s = none ↔ (k, s) ∉ E.map fun x => (x.k, x.s) := by
  induction E with
  | nil => simp [getE]
  | cons x E ih =>
    simp only [getE, List.map_cons, List.mem_cons, Prod.mk.injEq, not_or]
    by_cases h : x.k = k ∧ x.s = s
    · simp [h]
    · rw [if_neg h, ih]
      have : ¬ (k = x.k ∧ s = x.s) := fun h' => h ⟨h'.1.symm, h'.2.symm⟩
      simp [this]
theorem getE_app (E : List En) (x : En) (k : Int) (s : ByteArray) : getE (E ++ [x]) k s = match getE E k s with
    | some m => some m
    | none => if x.k = k ∧ x.s = s then some x else none := by
  induction E with
  | nil => simp [getE]
  | cons y E ih =>
    simp only [List.cons_append, getE]
    rw [ih]
    split <;> rfl
theorem delE_get {E : List En} (hn : EN E) (k k' : Int) (s s' : ByteArray) : getE (delE E k s) k' s' = if k = k' ∧ s = s' then none else getE E k' s' := by
  induction E with
  | nil => simp [delE, getE]
  | cons x E ih =>
    have hn' : EN E := (List.nodup_cons.1 hn).2
    have hx : (x.k, x.s) ∉ E.map fun x => (x.k, x.s) := (List.nodup_cons.1 hn).1
    simp only [delE]
    by_cases h : x.k = k ∧ x.s = s
    · rw [if_pos h]
      obtain ⟨rfl, rfl⟩ := h
      by_cases h' : x.k = k' ∧ x.s = s'
      · rw [if_pos h']
        obtain ⟨rfl, rfl⟩ := h'
        exact getE_mem.2 hx
      · rw [if_neg h', getE, if_neg h']
    · rw [if_neg h, getE, ih hn', getE]
      by_cases h' : x.k = k' ∧ x.s = s'
      · rw [if_pos h', if_pos h']
        obtain ⟨rfl, rfl⟩ := h'
        rw [if_neg (fun e => h ⟨e.1.symm, e.2.symm⟩)]
      · rw [if_neg h', if_neg h']
theorem delE_sub (E : List En) (k : Int) (s : ByteArray) : (delE E k s).Sublist E := by
  induction E with
  | nil => exact .slnil
  | cons x E ih =>
    simp only [delE]
    split
    · exact List.sublist_cons_self _ _
    · exact ih.cons_cons _
theorem delE_nd {E : List En} (hn : EN E) (k : Int) (s : ByteArray) : EN (delE E k s) := List.Nodup.sublist ((delE_sub E k s).map _) hn
/-- Without these names of a level. -/
def delL (E : List En) (k : Int) (l : List ByteArray) : List En := l.foldl (fun E s => delE E k s) E
theorem delL_nd {k : Int} : ∀ {l : List ByteArray} {E : List En}, EN E → EN (delL E k l)
  | [], E, h => h
  | s :: l, E, h => delL_nd (l := l) (delE_nd h k s)
open Classical in
theorem delL_get {k k' : Int} {s' : ByteArray} : ∀ {l : List ByteArray} {E : List En}, EN E → getE (delL E k l) k' s' = if k = k' ∧ s' ∈ l then none else getE E k' s'
  | [], E, h => by simp [delL]
  | s :: l, E, h => by
    show getE (delL (delE E k s) k l) k' s' = _
    rw [delL_get (delE_nd h k s), delE_get h]
    by_cases h1 : k = k'
    · by_cases h2 : s' ∈ l
      · simp [h1, h2]
      · by_cases h3 : s = s'
        · simp [h1, h3]
        · simp [h1, h2, h3, Ne.symm h3]
    · simp [h1]
theorem delL_snoc (E : List En) (k : Int) (l : List ByteArray) (s : ByteArray) : delE (delL E k l) k s = delL E k (l ++ [s]) := by
  simp [delL, List.foldl_append]

/-! what the calls answer -/
abbrev St := List Lv
def lastL (st : St) : Lv := st.getD (st.length - 1) []
open Classical in
noncomputable def declV (st : St) (s : ByteArray) : Int := if ¬ Nm s then 150 else if (lvGet (lastL st) s).isSome then 151 else if (lastL st).length = 256 then 3 else 0
open Classical in
noncomputable def declS (st : St) (s : ByteArray) (n : Int) : St := if declV st s = 0 then st.set (st.length - 1) (lastL st ++ [(s, n)]) else st
/-- From the innermost level outwards. -/
def findD (st : St) (s : ByteArray) : Nat → Option (Int × Nat)
  | 0 => none
  | k + 1 => match lvGet (st.getD k []) s with
    | some n => some (n, k)
    | none => findD st s k
def findV : Option (Int × Nat) → AV
  | some (n, k) => .tup [iv n, iv k, bv true]
  | none => .tup [iv 0, iv 0, bv false]
def openV (st : St) : Int := if st.length = 64 then 4 else 0
def openS (st : St) : St := if st.length = 64 then st else st ++ [[]]
def closeV (st : St) : Bool := decide (1 < st.length)
def closeS (st : St) : St := if 1 < st.length then st.take (st.length - 1) else st

/-! where it lies -/
/-- A row that may grow, or nothing yet. -/
def RowA {α : Type} (e : Nat) (c : α → List Dat) (H : List ABlk) (x : AV) (l : List α) : Prop :=
  (x = .esl ∧ l = []) ∨ ∃ b, x = .gsl b 1 (l.map c) ∧ H[b]? = some (.row e 1 l.length)
def rowB : AV → List Nat
  | .gsl b _ _ => [b]
  | _ => []
theorem RowA.frame {α : Type} {e : Nat} {c : α → List Dat} {H H' : List ABlk} {x : AV} {l : List α} (h : RowA e c H x l) (hH : ∀ b ∈ rowB x, H'[b]? = H[b]?) : RowA e c H' x l := by
  rcases h with h | ⟨b, rfl, h2⟩
  · exact .inl h
  · exact .inr ⟨b, rfl, by rw [hH b (by simp [rowB]), h2]⟩
def RowsA {α : Type} (e : Nat) (c : α → List Dat) (H : List ABlk) (xs : List AV) (ls : List (List α)) : Prop :=
  xs.length = ls.length ∧ ∀ (i : Nat) x l, xs[i]? = some x → ls[i]? = some l → RowA e c H x l
theorem RowsA.frame {α : Type} {e : Nat} {c : α → List Dat} {H H' : List ABlk} {xs : List AV} {ls : List (List α)} (h : RowsA e c H xs ls) (hH : ∀ b ∈ xs.flatMap rowB, H'[b]? = H[b]?) : RowsA e c H' xs ls :=
  ⟨h.1, fun i x l hx hl => (h.2 i x l hx hl).frame fun b hb => hH b (List.mem_flatMap.2 ⟨x, List.mem_of_getElem? hx, hb⟩)⟩
theorem RowsA.app {α : Type} {e : Nat} {c : α → List Dat} {H : List ABlk} {xs ys : List AV} {ls ms : List (List α)} (h : RowsA e c H xs ls) (k : RowsA e c H ys ms) : RowsA e c H (xs ++ ys) (ls ++ ms) := by
  refine ⟨by simp [h.1, k.1], fun i x l hx hl => ?_⟩
  rw [List.getElem?_append] at hx hl
  rw [← h.1] at hl
  split at hx
  · rename_i hi
    rw [if_pos hi] at hl
    exact h.2 i x l hx hl
  · rename_i hi
    rw [if_neg hi] at hl
    exact k.2 _ x l hx hl
theorem RowsA.take {α : Type} {e : Nat} {c : α → List Dat} {H : List ABlk} {xs : List AV} {ls : List (List α)} (h : RowsA e c H xs ls) (n : Nat) : RowsA e c H (xs.take n) (ls.take n) := by
  refine ⟨by simp [h.1], fun i x l hx hl => ?_⟩
  rw [List.getElem?_take] at hx hl
  split at hx
  · rename_i hi
    rw [if_pos hi] at hl
    exact h.2 i x l hx hl
  · cases hx
theorem RowsA.set {α : Type} {e : Nat} {c : α → List Dat} {H : List ABlk} {xs : List AV} {ls : List (List α)} (h : RowsA e c H xs ls) (n : Nat) {y : AV} {m : List α} (hy : RowA e c H y m) : RowsA e c H (xs.set n y) (ls.set n m) := by
  refine ⟨by simp [h.1], fun i x l hx hl => ?_⟩
  rw [List.getElem?_set] at hx hl
  by_cases e : n = i
  · subst e
    simp only [if_true] at hx hl
    split at hx
    · rename_i hlt
      rw [if_pos (by rw [← h.1]; exact hlt)] at hl
      cases hx; cases hl; exact hy
    · cases hx
  · rw [if_neg e] at hx hl
    exact h.2 i x l hx hl

/-- What was made of the heap: only one's own blocks changed, and new ones came. -/
structure Chg (H : List ABlk) (F : List Nat) (H' : List ABlk) (F' : List Nat) : Prop where
  len : H.length ≤ H'.length
  out : ∀ b, b < H.length → b ∉ F → H'[b]? = H[b]?
  sub : ∀ b ∈ F', b ∈ F ∨ H.length ≤ b
theorem Chg.rfl' {H : List ABlk} {F : List Nat} : Chg H F H F := ⟨Nat.le_refl _, fun _ _ _ => rfl, fun _ h => .inl h⟩
theorem Chg.trans {H H' H'' : List ABlk} {F F' F'' : List Nat} (h : Chg H F H' F') (k : Chg H' F' H'' F'') : Chg H F H'' F'' :=
  ⟨Nat.le_trans h.len k.len, fun b hb hF => by
    rw [k.out b (Nat.lt_of_lt_of_le hb h.len) (fun hf => by rcases h.sub b hf with h1 | h1; exact hF h1; omega), h.out b hb hF], fun b hb => by
    rcases k.sub b hb with h1 | h1
    · exact h.sub b h1
    · exact .inr (Nat.le_trans h.len h1)⟩
end Go.Proofs.Ythgffjaiklmbcaa
