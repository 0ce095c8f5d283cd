/- What the functions compute, in plain Lean. -/
import Derived.Test.YtpajelfgipdmhaaCode
import Derived.IntWalk
namespace Go.Proofs.Ytpajelfgipdmhaa
open Go.RowKit

inductive Ex where
  | mk (kind n : Int) (text op : ByteArray) (args : List Ex) (at_ : Int)

mutual
def Ex.cells : Ex → List Dat
  | .mk k n t o xs a => [.v (.int .i64 k), .v (.int .i64 n), .v (.string t), .v (.string o), .sl (Ex.cellsL xs), .v (.int .i64 a)]
def Ex.cellsL : List Ex → List (List Dat)
  | [] => []
  | x :: r => x.cells :: Ex.cellsL r
end
def Ex.av (e : Ex) : AV := .agg (e.cells.map .d)
def Ex.args : Ex → List Ex
  | .mk _ _ _ _ xs _ => xs
def Ex.kind : Ex → Int
  | .mk k _ _ _ _ _ => k

mutual
def Ex.sz : Ex → Nat
  | .mk _ _ _ _ xs _ => 1 + Ex.szL xs
def Ex.szL : List Ex → Nat
  | [] => 0
  | x :: r => 1 + x.sz + Ex.szL r
end
theorem Ex.szL_get : ∀ {xs : List Ex} {i : Nat} {e : Ex}, xs[i]? = some e → e.sz < Ex.szL xs
  | [], i, e, h => by simp at h
  | x :: r, 0, e, h => by simp at h; subst h; simp only [Ex.szL]; omega
  | x :: r, i + 1, e, h => by have := Ex.szL_get (xs := r) (i := i) (by simpa using h); simp only [Ex.szL]; omega
theorem Ex.sz_args (e : Ex) : Ex.szL e.args < e.sz := by cases e; simp only [Ex.sz, Ex.args]; omega
theorem Ex.cells_len (e : Ex) : e.cells.length = 6 := by cases e; rfl
theorem Ex.cellsL_eq : ∀ xs : List Ex, Ex.cellsL xs = xs.map Ex.cells
  | [] => rfl
  | x :: r => by rw [Ex.cellsL, Ex.cellsL_eq r, List.map_cons]
theorem Ex.cellsL_len (xs : List Ex) : (Ex.cellsL xs).length = xs.length := by rw [Ex.cellsL_eq, List.length_map]
theorem Ex.cellsL_get {xs : List Ex} {i : Nat} {e : Ex} (h : xs[i]? = some e) : (Ex.cellsL xs).getD i [] = e.cells := by
  rw [Ex.cellsL_eq, List.getD_eq_getElem?_getD, List.getElem?_map, h]; rfl

/-- All lists within are at most B long. -/
inductive Ex.Ok (B : Nat) : Ex → Prop
  | mk {k n : Int} {t o : ByteArray} {xs : List Ex} {a : Int} : xs.length ≤ B → (∀ x ∈ xs, Ex.Ok B x) → Ex.Ok B (.mk k n t o xs a)
def Ex.OkL (B : Nat) (xs : List Ex) : Prop := xs.length ≤ B ∧ ∀ x ∈ xs, Ex.Ok B x
theorem Ex.Ok.args {B : Nat} {e : Ex} (h : Ex.Ok B e) : Ex.OkL B e.args := by cases h with | mk h1 h2 => exact ⟨h1, h2⟩

mutual
def need : Ex → Int
  | .mk k _ _ _ xs _ => min (needL k xs 0 1) 128
def needL (k : Int) : List Ex → Int → Int → Int
  | [], _, n => n
  | x :: r, i, n => needL k r (i + 1) (max n (if k = 12 ∧ i > 0 then max 2 (need x) else need x + i))
end
theorem needL_ge (k : Int) : ∀ (xs : List Ex) (i n : Int), n ≤ needL k xs i n
  | [], _, _ => Int.le_refl _
  | x :: r, i, n => by rw [needL]; exact Int.le_trans (Int.le_max_left _ _) (needL_ge k r _ _)
theorem need_pos (e : Ex) : 1 ≤ need e := by
  cases e with
  | mk k n t o xs a => rw [need]; have := needL_ge k xs 0 1; omega
theorem need_le (e : Ex) : need e ≤ 128 := by
  cases e with
  | mk k n t o xs a => rw [need]; omega
theorem Ex.take6 (e : Ex) : e.cells.take 6 = e.cells := List.take_of_length_le (by rw [e.cells_len]; exact Nat.le_refl _)
theorem Ex.av_eq (e : Ex) : AV.agg (e.cells.map .d) = e.av := rfl
theorem Ex.shown (e : Ex) : Go.Proofs.Ytpajelfgipdmhaa.shown e.av = true := rfl
theorem Ex.cellsAV (e : Ex) : Go.Proofs.Ytpajelfgipdmhaa.cellsAV e.av = e.cells.map .d := rfl
theorem Ex.ia {xs : List Ex} {i : Nat} {e : Ex} (h : xs[i]? = some e) : iaA (.d (.sl (Ex.cellsL xs))) (i : Int) 6 = some (.ip e.cells) := by
  have hi := (List.getElem?_eq_some_iff.1 h).1
  simp only [iaA, Ex.cellsL_len, Int.toNat_natCast, Ex.cellsL_get h, Ex.cells_len]
  rw [if_pos ⟨by omega, by omega, trivial⟩]
theorem Ex.take6m (e : Ex) : (e.cells.map AV.d).take 6 = e.cells.map .d := List.take_of_length_le (by rw [List.length_map, e.cells_len]; exact Nat.le_refl _)
theorem Ex.drop6m (e : Ex) : (e.cells.map AV.d).drop 6 = [] := List.drop_of_length_le (by rw [List.length_map, e.cells_len]; exact Nat.le_refl _)
theorem Ex.ones (e : Ex) : (e.cells.map AV.d).all one = true := by simp [one]
theorem toDats_d : ∀ ds : List Dat, toDats (ds.map AV.d) = some ds
  | [] => rfl
  | d :: ds => by simp only [List.map_cons, toDats, toDat, toDats_d ds]
theorem needL_drop {k : Int} {xs : List Ex} {i : Nat} {e : Ex} (h : xs[i]? = some e) (acc : Int) : needL k (xs.drop i) i acc = needL k (xs.drop (i + 1)) (i + 1 : Nat) (max acc (if k = 12 ∧ (i : Int) > 0 then max 2 (need e) else need e + i)) := by
  obtain ⟨hi, rfl⟩ := List.getElem?_eq_some_iff.1 h
  rw [List.drop_eq_getElem_cons hi, needL]
  rfl
end Go.Proofs.Ytpajelfgipdmhaa
