/- Writing and reading back: the plain law. -/
import Derived.Test.YtipjjcaflcpplaaWk8
import Derived.Test.YtipjjcaflcpplaaRd
namespace Go.Proofs.Ytipjjcaflcpplaa
set_option linter.unusedSimpArgs false
set_option linter.unusedVariables false
open Go.RowKit

noncomputable def itW (w : Wr) (x : It) : Wr :=
  if x.kind = 0 then putW w (byteW x.n) else if x.kind = 1 then numW w x.n else if x.kind = 2 then putW w (wordB (x.n % 4294967296)) else if x.kind = 3 then textW w x.text else w
def enc (x : It) : List UInt8 :=
  if x.kind = 0 then byteW x.n else if x.kind = 1 then comp7 x.n else if x.kind = 2 then wordB (x.n % 4294967296) else if x.kind = 3 then x.text.data.toList ++ [0] else []
def goodI (x : It) : Prop := (x.kind = 1 → fit32 x.n) ∧ (x.kind = 3 → textOk x.text)
theorem putW_ok {w : Wr} {l : List UInt8} (h1 : (putW w l).sp = false) (h2 : (putW w l).tl = false) : w.sp = false ∧ w.tl = false ∧ (putW w l).bs = w.bs ++ l := by
  unfold putW at h1 h2 ⊢
  split at h1
  · rename_i h; rw [if_pos h] at h2; rw [h] at h2; cases h2
  · rename_i h
    rw [if_neg h]
    exact ⟨h1, by simpa using h, rfl⟩
theorem itW_ok {w : Wr} {x : It} (h1 : (itW w x).sp = false) (h2 : (itW w x).tl = false) : w.sp = false ∧ w.tl = false ∧ goodI x ∧ (itW w x).bs = w.bs ++ enc x := by
  unfold itW enc goodI at *
  by_cases k0 : x.kind = 0
  · simp only [k0, if_true] at h1 h2 ⊢
    obtain ⟨a, b, c⟩ := putW_ok h1 h2
    exact ⟨a, b, ⟨fun h => by omega, fun h => by omega⟩, c⟩
  by_cases k1 : x.kind = 1
  · rw [if_neg k0, if_pos k1] at h1 h2 ⊢
    rw [if_neg k0, if_pos k1]
    unfold numW at h1 h2 ⊢
    split at h1
    · rename_i hf
      rw [if_pos hf] at h2 ⊢
      obtain ⟨a, b, c⟩ := putW_ok h1 h2
      exact ⟨a, b, ⟨fun _ => hf, fun h => by omega⟩, c⟩
    · cases h1
  by_cases k2 : x.kind = 2
  · rw [if_neg k0, if_neg k1, if_pos k2] at h1 h2 ⊢
    rw [if_neg k0, if_neg k1, if_pos k2]
    obtain ⟨a, b, c⟩ := putW_ok h1 h2
    exact ⟨a, b, ⟨fun h => by omega, fun h => by omega⟩, c⟩
  by_cases k3 : x.kind = 3
  · rw [if_neg k0, if_neg k1, if_neg k2, if_pos k3] at h1 h2 ⊢
    rw [if_neg k0, if_neg k1, if_neg k2, if_pos k3]
    unfold textW at h1 h2 ⊢
    split at h1
    · rename_i hf
      rw [if_pos hf] at h2 ⊢
      obtain ⟨a, b, c⟩ := putW_ok h1 h2
      exact ⟨a, b, ⟨fun h => by omega, fun _ => hf⟩, c⟩
    · cases h1
  · rw [if_neg k0, if_neg k1, if_neg k2, if_neg k3] at h1 h2 ⊢
    rw [if_neg k0, if_neg k1, if_neg k2, if_neg k3]
    exact ⟨h1, h2, ⟨fun h => absurd h k1, fun h => absurd h k3⟩, by simp⟩
theorem fold_ok : ∀ {l : List It} {w : Wr}, (l.foldl itW w).sp = false → (l.foldl itW w).tl = false → w.sp = false ∧ w.tl = false ∧ (∀ x ∈ l, goodI x) ∧ (l.foldl itW w).bs = w.bs ++ l.flatMap enc
  | [], w, h1, h2 => ⟨h1, h2, fun x hx => (by cases hx), (by simp)⟩
  | x :: l, w, h1, h2 => by
    obtain ⟨a, b, c, d⟩ := fold_ok (l := l) (w := itW w x) h1 h2
    obtain ⟨a', b', c', d'⟩ := itW_ok a b
    refine ⟨a', b', fun y hy => ?_, ?_⟩
    · rcases List.mem_cons.1 hy with rfl | hy
      · exact c'
      · exact c y hy
    · rw [List.foldl_cons, d, d', List.flatMap_cons, List.append_assoc]

/-! reading back what lies at the place -/
theorem at_list {s : ByteArray} {a : Nat} {e rest : List UInt8} (h : s.data.toList.drop a = e ++ rest) {i : Nat} (hi : i < e.length) : s.data.toList.getD (a + i) 0 = e.getD i 0 := by
  rw [List.getD_eq_getElem?_getD, List.getD_eq_getElem?_getD, ← List.getElem?_drop, h, List.getElem?_append_left hi]
theorem at_size {s : ByteArray} {a : Nat} {e rest : List UInt8} (h : s.data.toList.drop a = e ++ rest) (he : 0 < e.length) : a + e.length ≤ s.size := by
  have := congrArg List.length h
  rw [List.length_drop, len_data, List.length_append] at this
  omega
theorem byte_back {s : ByteArray} {a : Nat} {n : Int} {rest : List UInt8} (h : s.data.toList.drop a = byteW n ++ rest) : byteF s ⟨a, false⟩ = (n % 256, ⟨a + 1, false⟩) := by
  have hz := at_size h (by simp [byteW])
  simp only [byteW, List.length_singleton] at hz
  have e : takeF s ⟨a, false⟩ 1 = (s.extract a (a + 1), true, ⟨a + 1, false⟩) := by
    rw [takeF, if_neg (by simp), if_neg (by simp; omega)]; rfl
  have hc := at_list (i := 0) h (by simp [byteW])
  rw [Nat.add_zero] at hc
  simp only [byteF, e, if_true, chr, hc]
  congr 1
  show ((UInt8.ofNat (n % 256).toNat).toNat : Int) = _
  exact u8of (by omega) (by omega)
theorem num_back {s : ByteArray} {a : Nat} {n : Int} {rest : List UInt8} (hn : fit32 n) (h : s.data.toList.drop a = comp7 n ++ rest) : numF s ⟨a, false⟩ = (n, ⟨a + (comp7 n).length, false⟩) := by
  rw [numF, if_neg (by simp)]
  show (match decN (s.data.toList.drop a) with | some p => _ | none => _) = _
  rw [h, decN_comp hn]
theorem word_back {s : ByteArray} {a : Nat} {n : Int} {rest : List UInt8} (h0 : 0 ≤ n) (h1 : n < 4294967296) (h : s.data.toList.drop a = wordB n ++ rest) : wordF s ⟨a, false⟩ = (n, ⟨a + 4, false⟩) := by
  have hz := at_size h (by simp [wordB])
  have hl : (wordB n).length = 4 := rfl
  rw [hl] at hz
  have e : takeF s ⟨a, false⟩ 4 = (s.extract a (a + 4), true, ⟨a + 4, false⟩) := by
    rw [takeF, if_neg (by simp), if_neg (by simp; omega)]; rfl
  have c0 := at_list (i := 0) h (by rw [hl]; omega)
  have c1 := at_list (i := 1) h (by rw [hl]; omega)
  have c2 := at_list (i := 2) h (by rw [hl]; omega)
  have c3 := at_list (i := 3) h (by rw [hl]; omega)
  rw [Nat.add_zero] at c0
  have b0 := wBn n 0
  have b1 := wBn n 1
  have b2 := wBn n 2
  have b3 := wBn n 3
  simp only [Int.reducePow] at b0 b1 b2 b3
  simp only [wordF, e, if_true, wordV, chr, c0, c1, c2, c3]
  congr 1
  show ((wB n 0).toNat : Int) + ((wB n 1).toNat : Int) * 256 + ((wB n 2).toNat : Int) * 65536 + ((wB n 3).toNat : Int) * 16777216 = n
  rw [b0, b1, b2, b3]
  omega
theorem idxB_first {l rest : List UInt8} (h : (0 : UInt8) ∉ l) : idxB (l ++ [0] ++ rest) 0 = l.length := by
  induction l with
  | nil => simp [idxB]
  | cons b l ih =>
    have hb : ¬ b = 0 := fun e => h (by simp [e])
    have := ih (fun e => h (by simp [e]))
    rw [List.cons_append, List.cons_append, idxB, if_neg (by simpa using hb), this, if_neg (by simp)]
    simp
theorem ba_ext {s t : ByteArray} (h : s.data.toList = t.data.toList) : s = t := by
  obtain ⟨⟨a⟩⟩ := s
  obtain ⟨⟨b⟩⟩ := t
  simp only at h
  rw [h]
theorem text_back {s : ByteArray} {a : Nat} {t : ByteArray} {rest : List UInt8} (ht : textOk t) (h : s.data.toList.drop a = (t.data.toList ++ [0]) ++ rest) : textF s ⟨a, false⟩ = (t, ⟨a + (t.size + 1), false⟩) := by
  have hi := idxB_first (rest := rest) ht.2
  rw [← h, len_data] at hi
  have hz := at_size h (by simp)
  simp only [List.length_append, List.length_singleton, len_data] at hz
  rw [textF, if_neg (by simp)]
  show (if idxB (s.data.toList.drop a) 0 < 0 ∨ idxB (s.data.toList.drop a) 0 > 64 then _ else _) = _
  have := ht.1
  rw [hi, if_neg (by omega)]
  have he : s.extract a (a + ((t.size : Nat) : Int).toNat) = t := by
    apply ba_ext
    rw [ex_list, h, Int.toNat_natCast, Nat.add_sub_cancel_left, List.append_assoc, ← len_data, List.take_left]
  show (s.extract a (a + ((t.size : Nat) : Int).toNat), _) = _
  rw [he]
  rfl
theorem and255 (n : Int) : IntKind.i64.wrap ((BitVec.ofInt IntKind.i64.bits n &&& BitVec.ofInt IntKind.i64.bits 255).toNat : Int) = n % 256 := by
  show IntKind.i64.wrap ((BitVec.ofInt 64 n &&& BitVec.ofInt 64 255).toNat : Int) = n % 256
  have e : (BitVec.ofInt 64 n &&& BitVec.ofInt 64 255).toNat = (BitVec.ofInt 64 n).toNat % 256 := by
    rw [BitVec.toNat_and]
    have : (BitVec.ofInt 64 255).toNat = 2 ^ 8 - 1 := by decide
    rw [this, Nat.and_two_pow_sub_one_eq_mod]
  rw [e, BitVec.toNat_ofInt, w_i64 (by omega) (by omega)]
  have h3 : ((2 ^ 64 : Nat) : Int) = 18446744073709551616 := by decide
  omega
end Go.Proofs.Ytipjjcaflcpplaa
