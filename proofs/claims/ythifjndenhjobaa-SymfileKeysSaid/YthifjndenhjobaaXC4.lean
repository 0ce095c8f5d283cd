/- Reading an interface's bytes, plainly. -/
import Derived.Test.YthifjndenhjobaaXS6a
import Derived.Test.YthifjndenhjobaaXD1a
namespace Go.Proofs.Ythifjndenhjobaa.Rid
set_option linter.unusedSimpArgs false
set_option linter.unusedVariables false
set_option maxRecDepth 20000
set_option maxHeartbeats 1000000
open Go.RowKit

abbrev Par (α : Type) := List UInt8 → Option (α × List UInt8)
def pB : Par Int
 | [] => none
 | b :: r => some ((b.toNat : Int), r)
def pW : Par Int
 | a :: b :: c :: d :: r => some ((a.toNat : Int) + 256 * b.toNat + 65536 * c.toNat + 16777216 * d.toNat, r)
 | _ => none
def pN : Par Int := fun l => (decN l).bind fun x => some (x.1, l.drop x.2)
def tlen : List UInt8 → Nat
 | [] => 0
 | b :: r => if b = 0 then 0 else tlen r + 1
def pT : Par ByteArray := fun l => if tlen l < l.length ∧ tlen l ≤ 64 then some (⟨(l.take (tlen l)).toArray⟩, l.drop (tlen l + 1)) else none
def pL {α : Type} (p : Par α) : Nat → Par (List α)
 | 0, l => some ([], l)
 | n + 1, l => (p l).bind fun x => (pL p n x.2).bind fun y => some (x.1 :: y.1, y.2)
theorem itsB_1 (x : It) (l : List It) (r : List UInt8) : itsB (x :: l) ++ r = itB x ++ (itsB l ++ r) := by rw [itsB, List.flatMap_cons, List.append_assoc]; rfl
theorem itsB_0 (r : List UInt8) : itsB [] ++ r = r := id rfl
theorem bind_s {α β : Type} (a : α) (f : α → Option β) : (some a).bind f = f a := id rfl
theorem itsB_app (l k : List It) (r : List UInt8) : itsB (l ++ k) ++ r = itsB l ++ (itsB k ++ r) := by rw [itsB, List.flatMap_append, List.append_assoc]; rfl
theorem pB_ok {n : Int} (h : 0 ≤ n ∧ n < 256) (r : List UInt8) : pB (itB (iB n) ++ r) = some (n, r) := by
 show some (((UInt8.ofNat (n % 256).toNat).toNat : Int), r) = _
 rw [u8n (by omega), show (((n % 256).toNat : Nat) : Int) = n by omega]
theorem pW_ok {n : Int} (h : 0 ≤ n ∧ n < 4294967296) (r : List UInt8) : pW (itB (iW n) ++ r) = some (n, r) := by
 show some (((wB n 0).toNat : Int) + 256 * (wB n 1).toNat + 65536 * (wB n 2).toNat + 16777216 * (wB n 3).toNat, r) = _
 rw [wBn, wBn, wBn, wBn]
 congr 2
 simp only [Int.pow_zero, Int.ediv_one, show (256 : Int) ^ 1 = 256 by decide, show (256 : Int) ^ 2 = 65536 by decide, show (256 : Int) ^ 3 = 16777216 by decide]
 omega
theorem pN_ok {n : Int} (h : fit32 n) (r : List UInt8) : pN (itB (iN n) ++ r) = some (n, r) := by
 have e : itB (iN n) = comp7 n := by rw [itB, if_neg (by simp), if_pos rfl, if_pos h]
 rw [e, pN, decN_comp h, bind_s, List.drop_left]
theorem tlen_ok : ∀ (l r : List UInt8), (0 : UInt8) ∉ l → tlen (l ++ 0 :: r) = l.length
 | [], r, _ => rfl
 | b :: l, r, h => by
  simp only [List.mem_cons, not_or] at h
  rw [List.cons_append, tlen, if_neg (Ne.symm h.1), tlen_ok l r h.2, List.length_cons]
theorem pT_ok {s : ByteArray} (h : textOk s) (r : List UInt8) : pT (itB (iT s) ++ r) = some (s, r) := by
 have e : itB (iT s) = s.data.toList ++ [0] := by rw [itB, if_neg (by simp), if_neg (by simp), if_neg (by simp), if_pos h]
 have hl := len_data s
 have h1 := h.1
 have t := tlen_ok s.data.toList r h.2
 rw [e, List.append_assoc, List.singleton_append, pT, t, if_pos ⟨by rw [List.length_append, List.length_cons]; omega, by omega⟩, List.take_left, List.drop_length_add_append]
 rfl
theorem pL_ok {α : Type} {p : Par α} {g : α → List It} : ∀ (xs : List α), (∀ x ∈ xs, ∀ r, p (itsB (g x) ++ r) = some (x, r)) → ∀ r, pL p xs.length (itsB (xs.flatMap g) ++ r) = some (xs, r)
 | [], _, r => rfl
 | x :: xs, h, r => by
  rw [List.length_cons, pL, List.flatMap_cons, itsB_app, h x (by simp), bind_s, pL_ok xs fun y hy => h y (by simp [hy])]
  rfl
def pFd : Par Fd := fun l => (pT l).bind fun a => (pB a.2).bind fun b => (pN b.2).bind fun c => some (⟨a.1, decide (b.1 = 1), c.1⟩, c.2)
def pPm : Par Pm := fun l => (pB l).bind fun b => (pN b.2).bind fun c => some (⟨decide (b.1 = 1), c.1⟩, c.2)
def pTy : Par Ty := fun l => (pB l).bind fun a0 => (pT a0.2).bind fun a1 => (pT a1.2).bind fun a2 => (pN a2.2).bind fun a3 => (pN a3.2).bind fun a4 => (pN a4.2).bind fun a5 => (pN a5.2).bind fun a6 => (pN a6.2).bind fun a7 => (pN a7.2).bind fun a8 => (pL pFd a8.1.toNat a8.2).bind fun a9 => (pN a9.2).bind fun b0 => (pL pPm b0.1.toNat b0.2).bind fun b1 => some (⟨a0.1, a1.1, a2.1, a3.1, a4.1, a5.1, a9.1, b1.1, a6.1, a7.1⟩, b1.2)
def pUs : Par Us := fun l => (pT l).bind fun a => (pW a.2).bind fun b => some (⟨a.1, b.1⟩, b.2)
def pOb : Par Ob := fun l => (pB l).bind fun a0 => (pT a0.2).bind fun a1 => (pN a1.2).bind fun a2 => (pB a2.2).bind fun a3 => (pN a3.2).bind fun a4 => (pT a4.2).bind fun a5 => (pN a5.2).bind fun a6 => some (⟨a0.1, a1.1, a2.1, ⟨a3.1, numR a3.1 a4.1, a5.1⟩, a6.1⟩, a6.2)
def pFc : Par Fc := fun l => (pT l).bind fun h => if h.1 = headB then (pT h.2).bind fun a0 => (pW a0.2).bind fun a1 => (pN a1.2).bind fun a2 => (pL pUs a2.1.toNat a2.2).bind fun a3 => (pN a3.2).bind fun a4 => (pL pTy a4.1.toNat a4.2).bind fun a5 => (pN a5.2).bind fun a6 => (pL pOb a6.1.toNat a6.2).bind fun a7 => some (⟨a0.1, a1.1, a3.1, basicL ++ a5.1, a7.1⟩, a7.2) else none
theorem okT {s : ByteArray} (h : itOk (iT s)) : textOk s := h.2 (Nat.le_refl 3)
theorem okN {n : Int} (h : itOk (iN n)) : fit32 n := h.1 rfl
theorem flag_b (b : Bool) : 0 ≤ flagI b ∧ flagI b < 256 ∧ decide (flagI b = 1) = b := by cases b <;> decide
theorem pFd_ok (f : Fd) (h : ∀ x ∈ fdI f, itOk x) (r : List UInt8) : pFd (itsB (fdI f) ++ r) = some (f, r) := by
 obtain ⟨b0, b1, b2⟩ := flag_b f.exp
 have h1 := okT (h (iT f.name) (by simp [fdI]))
 have h2 := okN (h (iN f.typ) (by simp [fdI]))
 simp only [pFd, fdI, itsB_1, itsB_0, pT_ok h1, pB_ok ⟨b0, b1⟩, pN_ok h2, bind_s, b2]
theorem pPm_ok (f : Pm) (h : ∀ x ∈ pmI f, itOk x) (r : List UInt8) : pPm (itsB (pmI f) ++ r) = some (f, r) := by
 obtain ⟨b0, b1, b2⟩ := flag_b f.var
 have h2 := okN (h (iN f.typ) (by simp [pmI]))
 simp only [pPm, pmI, itsB_1, itsB_0, pB_ok ⟨b0, b1⟩, pN_ok h2, bind_s, b2]
theorem pTy_ok (t : Ty) (h : ∀ x ∈ tyI t, itOk x) (hf : 0 ≤ t.form ∧ t.form < 256) (r : List UInt8) : pTy (itsB (tyI t) ++ r) = some (t, r) := by
 have h1 := okT (h (iT t.mod) (by simp [tyI]))
 have h2 := okT (h (iT t.name) (by simp [tyI]))
 have h3 := okN (h (iN t.len) (by simp [tyI]))
 have h4 := okN (h (iN t.elem) (by simp [tyI]))
 have h5 := okN (h (iN t.base) (by simp [tyI]))
 have h6 := okN (h (iN t.result) (by simp [tyI]))
 have h7 := okN (h (iN t.desc) (by simp [tyI]))
 have h8 := okN (h (iN t.fields.length) (by simp [tyI]))
 have h9 := okN (h (iN t.params.length) (by simp [tyI]))
 have k1 := pL_ok (p := pFd) (g := fdI) t.fields fun f hf => pFd_ok f fun x hx => h x (by
  rw [tyI]; exact List.mem_append_right _ (List.mem_append_left _ (List.mem_flatMap.2 ⟨f, hf, hx⟩)))
 have k2 := pL_ok (p := pPm) (g := pmI) t.params fun f hf => pPm_ok f fun x hx => h x (by
  rw [tyI]; exact List.mem_append_right _ (List.mem_append_right _ (List.mem_append_right _ (List.mem_flatMap.2 ⟨f, hf, hx⟩))))
 simp only [pTy, tyI, itsB_app, itsB_1, itsB_0, pB_ok hf, pT_ok h1, pT_ok h2, pN_ok h3, pN_ok h4, pN_ok h5, pN_ok h6, pN_ok h7, pN_ok h8, pN_ok h9, bind_s, Int.toNat_natCast, k1, k2]
theorem pUs_ok (u : Us) (h : ∀ x ∈ usI u, itOk x) (hk : 0 ≤ u.key ∧ u.key < 4294967296) (r : List UInt8) : pUs (itsB (usI u) ++ r) = some (u, r) := by
 have h1 := okT (h (iT u.name) (by simp [usI]))
 simp only [pUs, usI, itsB_1, itsB_0, pT_ok h1, pW_ok hk, bind_s]
theorem numR_ok {v : Vl} (h : v.form = 4 → 0 ≤ v.n ∧ v.n < 4294967296) : numR v.form (numV v) = v.n := by
 by_cases e : v.form = 4
 ·have := h e
  rw [numR, if_pos e, numV, if_pos e, sg32]
  split <;> omega
 ·rw [numR, if_neg e, numV, if_neg e]
theorem pOb_ok (o : Ob) (h : ∀ x ∈ obI o, itOk x) (hc : 0 ≤ o.cls ∧ o.cls < 256) (hv : 0 ≤ o.val.form ∧ o.val.form < 256) (hn : o.val.form = 4 → 0 ≤ o.val.n ∧ o.val.n < 4294967296) (r : List UInt8) : pOb (itsB (obI o) ++ r) = some (o, r) := by
 have h1 := okT (h (iT o.name) (by simp [obI]))
 have h2 := okN (h (iN o.typ) (by simp [obI]))
 have h3 := okN (h (iN (numV o.val)) (by simp [obI]))
 have h4 := okT (h (iT o.val.text) (by simp [obI]))
 have h5 := okN (h (iN o.n) (by simp [obI]))
 simp only [pOb, obI, itsB_1, itsB_0, pB_ok hc, pB_ok hv, pT_ok h1, pN_ok h2, pN_ok h3, pT_ok h4, pN_ok h5, bind_s, numR_ok hn]
theorem vl_form {v : Vl} (h : VlP v) : (0 ≤ v.form ∧ v.form < 256) ∧ (v.form = 4 → 0 ≤ v.n ∧ v.n < 4294967296) := by
 rcases h with ⟨h, _⟩ | ⟨_, ⟨h, _⟩ | ⟨h, _⟩ | ⟨h, _⟩ | ⟨h, h1⟩ | ⟨h, _⟩⟩
 ·exact ⟨by omega, fun e => by omega⟩
 ·exact ⟨by omega, fun e => by omega⟩
 ·exact ⟨by omega, fun e => by omega⟩
 ·exact ⟨by omega, fun e => by omega⟩
 ·exact ⟨by omega, fun _ => h1⟩
 ·exact ⟨by omega, fun e => by omega⟩
theorem ob_form {t : List Ty} {o : Ob} (h : ObP t o) : (0 ≤ o.cls ∧ o.cls < 256) ∧ (0 ≤ o.val.form ∧ o.val.form < 256) ∧ (o.val.form = 4 → 0 ≤ o.val.n ∧ o.val.n < 4294967296) := by
 have z : o.val = ⟨0, 0, se⟩ → (0 ≤ o.val.form ∧ o.val.form < 256) ∧ (o.val.form = 4 → 0 ≤ o.val.n ∧ o.val.n < 4294967296) := fun e => by
  rw [e]; exact ⟨⟨by decide, by decide⟩, fun e => absurd e (by decide)⟩
 rcases h.2.2 with ⟨h, hv, _⟩ | ⟨h, hv, _⟩ | ⟨h, hv, _⟩ | ⟨h, hv, _⟩
 ·exact ⟨by omega, (vl_form hv).1, (vl_form hv).2⟩
 ·exact ⟨by omega, z hv⟩
 ·exact ⟨by omega, z hv⟩
 ·exact ⟨by omega, z hv⟩
theorem face_types {f : Fc} (h : FaceP f) : f.types = basicL ++ f.types.drop 7 := by
 have h7 := h.ty.len.1
 have e : f.types.take 7 = basicL := by
  apply List.ext_getElem
  ·rw [List.length_take]; show min 7 _ = 7; omega
  ·intro i h1 h2
   have hi : i < 7 := h2
   have := h.ty.bas i hi
   rw [List.getD_eq_getElem?_getD, List.getElem?_eq_getElem (by omega), Option.getD_some] at this
   have hb := basic_at hi
   rw [List.getD_eq_getElem?_getD, List.getElem?_eq_getElem (show i < basicL.length from hi), Option.getD_some] at hb
   rw [List.getElem_take, this, hb]
 rw [← e, List.take_append_drop]
theorem face_form {f : Fc} (h : FaceP f) : ∀ x ∈ f.types.drop 7, 0 ≤ x.form ∧ x.form < 256 := fun x hx => by
 obtain ⟨i, hi, rfl⟩ := List.mem_iff_getElem.1 hx
 rw [List.getElem_drop]
 rw [List.length_drop] at hi
 have e1 : tyAt f.types ((7 + i : Nat) : Int) = f.types[7 + i] := by rw [tyAt, Int.toNat_natCast, List.getD_eq_getElem?_getD, List.getElem?_eq_getElem (by omega)]; rfl
 rw [← e1]
 rcases h.ty.at_ (a := ((7 + i : Nat) : Int)) (by omega) (by omega) with ⟨h7, _⟩ | ⟨_, h⟩
 ·omega
 ·obtain ⟨h1, _⟩ := h
  rcases h1 with h | h | h | h | h <;> (have := h.1; omega)
theorem pFc_ok {f : Fc} (hF : FaceP f) (hk : KeyP f) (h : ∀ x ∈ encI f, itOk x) (r : List UInt8) : pFc (itsB (encI f) ++ r) = some (f, r) := by
 have h0 := okT (h (iT headB) (by simp [encI, headB]))
 have h1 := okT (h (iT f.name) (by simp [encI]))
 have h2 := okN (h (iN f.uses.length) (by simp [encI]))
 have h3 := okN (h (iN (f.types.drop 7).length) (by simp [encI]))
 have h4 := okN (h (iN f.objs.length) (by simp [encI]))
 have k1 := pL_ok (p := pUs) (g := usI) f.uses fun u hu => pUs_ok u (fun x hx => h x (by
  rw [encI]; exact List.mem_append_right _ (List.mem_append_left _ (List.mem_flatMap.2 ⟨u, hu, hx⟩)))) (hk.2 u hu)
 have k2 := pL_ok (p := pTy) (g := tyI) (f.types.drop 7) fun u hu => pTy_ok u (fun x hx => h x (by
  rw [encI]; exact List.mem_append_right _ (List.mem_append_right _ (List.mem_append_right _ (List.mem_append_left _ (List.mem_flatMap.2 ⟨u, hu, hx⟩)))))) (face_form hF u hu)
 have k3 := pL_ok (p := pOb) (g := obI) f.objs fun u hu => pOb_ok u (fun x hx => h x (by
  rw [encI]; exact List.mem_append_right _ (List.mem_append_right _ (List.mem_append_right _ (List.mem_append_right _ (List.mem_append_right _ (List.mem_flatMap.2 ⟨u, hu, hx⟩))))))) (ob_form (hF.ob u hu)).1 (ob_form (hF.ob u hu)).2.1 (ob_form (hF.ob u hu)).2.2
 have ht := face_types hF
 simp only [pFc, encI, show (⟨#[83, 80, 83, 89]⟩ : ByteArray) = headB from rfl, itsB_app, itsB_1, itsB_0, pT_ok h0, pT_ok h1, pW_ok hk.1, pN_ok h2, pN_ok h3, pN_ok h4, bind_s, Int.toNat_natCast, k1, k2, k3, if_true, ← ht]
end Go.Proofs.Ythifjndenhjobaa.Rid

/- Reading back. -/
namespace Go.Proofs.Ythifjndenhjobaa.Rid
set_option linter.unusedSimpArgs false
set_option linter.unusedVariables false
open Go.RowKit
theorem at_list {s : ByteArray} {a : Nat} {e rest : List UInt8} (h : s.data.toList.drop a = e ++ rest) {i : Nat} (hi : i < e.length) : s.data.toList.getD (a + i) 0 = e.getD i 0 := by
 rw [List.getD_eq_getElem?_getD, List.getD_eq_getElem?_getD, ← List.getElem?_drop, h, List.getElem?_append_left hi]
theorem at_size {s : ByteArray} {a : Nat} {e rest : List UInt8} (h : s.data.toList.drop a = e ++ rest) (he : 0 < e.length) : a + e.length ≤ s.size := by
 have := congrArg List.length h
 rw [List.length_drop, len_data, List.length_append] at this
 omega
theorem byte_back {s : ByteArray} {a : Nat} {n : Int} {rest : List UInt8} (h : s.data.toList.drop a = byteW n ++ rest) : byteF s ⟨a, false⟩ = (n % 256, ⟨a + 1, false⟩) := by
 have hz := at_size h (by simp [byteW])
 simp only [byteW, List.length_singleton] at hz
 have e : takeF s ⟨a, false⟩ 1 = (s.extract a (a + 1), true, ⟨a + 1, false⟩) := by
  rw [takeF, if_neg (by simp), if_neg (by simp; omega)]; rfl
 have hc := at_list (i := 0) h (by simp [byteW])
 rw [Nat.add_zero] at hc
 simp only [byteF, e, if_true, chr, hc]
 congr 1
 show ((UInt8.ofNat (n % 256).toNat).toNat : Int) = _
 exact u8of (by omega) (by omega)
theorem num_back {s : ByteArray} {a : Nat} {n : Int} {rest : List UInt8} (hn : fit32 n) (h : s.data.toList.drop a = comp7 n ++ rest) : numF s ⟨a, false⟩ = (n, ⟨a + (comp7 n).length, false⟩) := by
 rw [numF, if_neg (by simp)]
 show (match decN (s.data.toList.drop a) with | some p => _ | none => _) = _
 rw [h, decN_comp hn]
theorem word_back {s : ByteArray} {a : Nat} {n : Int} {rest : List UInt8} (h0 : 0 ≤ n) (h1 : n < 4294967296) (h : s.data.toList.drop a = wordB n ++ rest) : wordF s ⟨a, false⟩ = (n, ⟨a + 4, false⟩) := by
 have hz := at_size h (by simp [wordB])
 have hl : (wordB n).length = 4 := rfl
 rw [hl] at hz
 have e : takeF s ⟨a, false⟩ 4 = (s.extract a (a + 4), true, ⟨a + 4, false⟩) := by
  rw [takeF, if_neg (by simp), if_neg (by simp; omega)]; rfl
 have c0 := at_list (i := 0) h (by rw [hl]; omega)
 have c1 := at_list (i := 1) h (by rw [hl]; omega)
 have c2 := at_list (i := 2) h (by rw [hl]; omega)
 have c3 := at_list (i := 3) h (by rw [hl]; omega)
 rw [Nat.add_zero] at c0
 have b0 := wBn n 0
 have b1 := wBn n 1
 have b2 := wBn n 2
 have b3 := wBn n 3
 simp only [Int.reducePow] at b0 b1 b2 b3
 simp only [wordF, e, if_true, wordV, chr, c0, c1, c2, c3]
 congr 1
 show ((wB n 0).toNat : Int) + ((wB n 1).toNat : Int) * 256 + ((wB n 2).toNat : Int) * 65536 + ((wB n 3).toNat : Int) * 16777216 = n
 rw [b0, b1, b2, b3]
 omega
theorem idxB_first {l rest : List UInt8} (h : (0 : UInt8) ∉ l) : idxB (l ++ [0] ++ rest) 0 = l.length := by
 induction l with
 | nil => simp [idxB]
 | cons b l ih =>
  have hb : ¬ b = 0 := fun e => h (by simp [e])
  have := ih (fun e => h (by simp [e]))
  rw [List.cons_append, List.cons_append, idxB, if_neg (by simpa using hb), this, if_neg (by simp)]
  simp
theorem ba_ext {s t : ByteArray} (h : s.data.toList = t.data.toList) : s = t := by
 obtain ⟨⟨a⟩⟩ := s
 obtain ⟨⟨b⟩⟩ := t
 simp only at h
 rw [h]
theorem text_back {s : ByteArray} {a : Nat} {t : ByteArray} {rest : List UInt8} (ht : textOk t) (h : s.data.toList.drop a = (t.data.toList ++ [0]) ++ rest) : textF s ⟨a, false⟩ = (t, ⟨a + (t.size + 1), false⟩) := by
 have hi := idxB_first (rest := rest) ht.2
 rw [← h, len_data] at hi
 have hz := at_size h (by simp)
 simp only [List.length_append, List.length_singleton, len_data] at hz
 rw [textF, if_neg (by simp)]
 show (if idxB (s.data.toList.drop a) 0 < 0 ∨ idxB (s.data.toList.drop a) 0 > 64 then _ else _) = _
 have := ht.1
 rw [hi, if_neg (by omega)]
 have he : s.extract a (a + ((t.size : Nat) : Int).toNat) = t := by
  apply ba_ext
  rw [ex_list, h, Int.toNat_natCast, Nat.add_sub_cancel_left, List.append_assoc, ← len_data, List.take_left]
 show (s.extract a (a + ((t.size : Nat) : Int).toNat), _) = _
 rw [he]
 rfl
end Go.Proofs.Ythifjndenhjobaa.Rid

/- Bytes tell interfaces apart, plainly. -/
namespace Go.Proofs.Ythifjndenhjobaa.Rid
set_option linter.unusedSimpArgs false
set_option linter.unusedVariables false
set_option maxRecDepth 20000
set_option maxHeartbeats 4000000
open Go.RowKit

theorem encV_cases (f : Fc) : (∃ s : ByteArray, encV f = [sv s, iv 0] ∧ FaceP f ∧ (∀ x ∈ encI f, itOk x) ∧ s.data.toList = itsB (encI f) ∧ s.size ≤ 131072) ∨ ∃ e, e ≠ 0 ∧ encV f = [sv nl, iv e] := by
 unfold encV fileF
 split
 ·rename_i hF
  split
  ·exact .inr ⟨1, by decide, rfl⟩
  ·rename_i h
   split
   ·exact .inr ⟨2, by decide, rfl⟩
   ·rename_i h2
    exact .inl ⟨_, rfl, hF, fun x hx => Classical.byContradiction fun h' => h ⟨x, hx, h'⟩, rfl, by show (itsB (encI f)).toArray.size ≤ _; rw [List.size_toArray]; omega⟩
 ·exact .inr ⟨160, by decide, rfl⟩
theorem encV_zero {f : Fc} {s : ByteArray} (h : encV f = [sv s, iv 0]) : FaceP f ∧ (∀ x ∈ encI f, itOk x) ∧ s.data.toList = itsB (encI f) := by
 rcases encV_cases f with ⟨t, h1, h2, h3, h4, _⟩ | ⟨e, he, h1⟩
 ·rw [h1] at h
  simp only [List.cons.injEq, AV.d.injEq, Dat.v.injEq, Value.string.injEq, and_true] at h
  subst h
  exact ⟨h2, h3, h4⟩
 ·rw [h1] at h
  simp only [List.cons.injEq, AV.d.injEq, Dat.v.injEq, Value.int.injEq, and_true, true_and] at h
  exact absurd h.2 he
end Go.Proofs.Ythifjndenhjobaa.Rid
