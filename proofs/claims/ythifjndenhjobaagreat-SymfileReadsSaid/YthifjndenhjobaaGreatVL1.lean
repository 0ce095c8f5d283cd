/- Reading an interface's bytes, plainly. -/
import Derived.Test.YthifjndenhjobaaGreatVS6a
import Derived.Test.YthifjndenhjobaaGreatVD1a
set_option linter.unusedSectionVars false
set_option linter.unusedSimpArgs false
set_option linter.unusedVariables false
set_option maxHeartbeats 4000000
set_option maxRecDepth 20000
namespace Go.Proofs.YthifjndenhjobaaGreat.Rid
open Go.RowKit
theorem itsB_1 (x : It) (l : List It) (r : List UInt8) : itsB (x :: l) ++ r = itB x ++ (itsB l ++ r) := by rw [itsB, List.flatMap_cons, List.append_assoc]; rfl
theorem itsB_0 (r : List UInt8) : itsB [] ++ r = r := id rfl
theorem itsB_app (l k : List It) (r : List UInt8) : itsB (l ++ k) ++ r = itsB l ++ (itsB k ++ r) := by rw [itsB, List.flatMap_append, List.append_assoc]; rfl
theorem okT {s : ByteArray} (h : itOk (iT s)) : textOk s := h.2 (Nat.le_refl 3)
theorem okN {n : Int} (h : itOk (iN n)) : fit32 n := h.1 rfl
theorem flag_b (b : Bool) : 0 <= flagI b /\ flagI b < 256 /\ decide (flagI b = 1) = b := by cases b <;> decide
theorem numR_ok {v : Vl} (h : v.form = 4 -> 0 <= v.n /\ v.n < 4294967296) : numR v.form (numV v) = v.n := by
 by_cases e : v.form = 4
 ·have := h e
  rw [numR, if_pos e, numV, if_pos e, sg32]
  split <;> omega
 ·rw [numR, if_neg e, numV, if_neg e]
theorem vl_form {v : Vl} (h : VlP v) : (0 <= v.form /\ v.form < 256) /\ (v.form = 4 -> 0 <= v.n /\ v.n < 4294967296) := by
 rcases h with ⟨h, _⟩ | ⟨_, ⟨h, _⟩ | ⟨h, _⟩ | ⟨h, _⟩ | ⟨h, h1⟩ | ⟨h, _⟩⟩
 ·exact ⟨by omega, fun e => by omega⟩
 ·exact ⟨by omega, fun e => by omega⟩
 ·exact ⟨by omega, fun e => by omega⟩
 ·exact ⟨by omega, fun e => by omega⟩
 ·exact ⟨by omega, fun _ => h1⟩
 ·exact ⟨by omega, fun e => by omega⟩
theorem ob_form {t : List Ty} {o : Ob} (h : ObP t o) : (0 <= o.cls /\ o.cls < 256) /\ (0 <= o.val.form /\ o.val.form < 256) /\ (o.val.form = 4 -> 0 <= o.val.n /\ o.val.n < 4294967296) := by
 have z : o.val = ⟨0, 0, se⟩ -> (0 <= o.val.form /\ o.val.form < 256) /\ (o.val.form = 4 -> 0 <= o.val.n /\ o.val.n < 4294967296) := fun e => by
  rw [e]; exact ⟨⟨by decide, by decide⟩, fun e => absurd e (by decide)⟩
 rcases h.2.2 with ⟨h, hv, _⟩ | ⟨h, hv, _⟩ | ⟨h, hv, _⟩ | ⟨h, hv, _⟩
 ·exact ⟨by omega, (vl_form hv).1, (vl_form hv).2⟩
 ·exact ⟨by omega, z hv⟩
 ·exact ⟨by omega, z hv⟩
 ·exact ⟨by omega, z hv⟩
theorem face_types {f : Fc} (h : FaceP f) : f.types = basicL ++ f.types.drop 7 := by
 have h7 := h.ty.len.1; have e : f.types.take 7 = basicL := by
  apply List.ext_getElem
  ·rw [List.length_take]; show min 7 _ = 7; omega
  ·intro i h1 h2
   have hi : i < 7 := h2; have := h.ty.bas i hi; rw [gD, gE (by omega), Option.getD_some] at this; have hb := basic_at hi; rw [gD, gE (show i < basicL.length from hi), Option.getD_some] at hb; rw [List.getElem_take, this, hb]
 rw [<- e, List.take_append_drop]
theorem face_form {f : Fc} (h : FaceP f) : ∀ x ∈ f.types.drop 7, 0 <= x.form /\ x.form < 256 := fun x hx => by
 obtain ⟨i, hi, rfl⟩ := List.mem_iff_getElem.1 hx; rw [List.getElem_drop]; rw [List.length_drop] at hi; have e1 : tyAt f.types ((7 + i : Nat) : Int) = f.types[7 + i] := by rw [tyAt, Int.toNat_natCast, gD, gE (by omega)]; rfl
 rw [<- e1]; rcases h.ty.at_ (a := ((7 + i : Nat) : Int)) (by omega) (by omega) with ⟨h7, _⟩ | ⟨_, h⟩
 ·omega
 ·obtain ⟨h1, _⟩ := h
  rcases h1 with h | h | h | h | h <;> (have := h.1; omega)
theorem at_list {s : ByteArray} {a : Nat} {e rest : List UInt8} (h : s.data.toList.drop a = e ++ rest) {i : Nat} (hi : i < e.length) : s.data.toList.getD (a + i) 0 = e.getD i 0 := by
 rw [gD, gD, <- List.getElem?_drop, h, List.getElem?_append_left hi]
theorem at_size {s : ByteArray} {a : Nat} {e rest : List UInt8} (h : s.data.toList.drop a = e ++ rest) (he : 0 < e.length) : a + e.length <= s.size := by
 have := congrArg List.length h; rw [List.length_drop, len_data, List.length_append] at this; omega
theorem byte_back {s : ByteArray} {a : Nat} {n : Int} {rest : List UInt8} (h : s.data.toList.drop a = byteW n ++ rest) : byteF s ⟨a, false⟩ = (n % 256, ⟨a + 1, false⟩) := by
 have hz := at_size h (by simp [byteW]); simp only [byteW, List.length_singleton] at hz; have e : takeF s ⟨a, false⟩ 1 = (s.extract a (a + 1), true, ⟨a + 1, false⟩) := by
  rw [takeF, if_neg (by simp), if_neg (by simp; omega)]; rfl
 have hc := at_list (i := 0) h (by simp [byteW]); rw [Nat.add_zero] at hc; simp only [byteF, e, if_true, chr, hc]
 congr 1
 show ((UInt8.ofNat (n % 256).toNat).toNat : Int) = _
 exact u8of (by omega) (by omega)
theorem num_back {s : ByteArray} {a : Nat} {n : Int} {rest : List UInt8} (hn : fit32 n) (h : s.data.toList.drop a = comp7 n ++ rest) : numF s ⟨a, false⟩ = (n, ⟨a + (comp7 n).length, false⟩) := by
 rw [numF, if_neg (by simp)]
 show (match decN (s.data.toList.drop a) with | some p => _ | none => _) = _
 rw [h, decN_comp hn]
theorem word_back {s : ByteArray} {a : Nat} {n : Int} {rest : List UInt8} (h0 : 0 <= n) (h1 : n < 4294967296) (h : s.data.toList.drop a = wordB n ++ rest) : wordF s ⟨a, false⟩ = (n, ⟨a + 4, false⟩) := by
 have hz := at_size h (by simp [wordB]); have hl : (wordB n).length = 4 := rfl; rw [hl] at hz; have e : takeF s ⟨a, false⟩ 4 = (s.extract a (a + 4), true, ⟨a + 4, false⟩) := by
  rw [takeF, if_neg (by simp), if_neg (by simp; omega)]; rfl
 have c0 := at_list (i := 0) h (by rw [hl]; omega); have c1 := at_list (i := 1) h (by rw [hl]; omega); have c2 := at_list (i := 2) h (by rw [hl]; omega); have c3 := at_list (i := 3) h (by rw [hl]; omega); rw [Nat.add_zero] at c0; have b0 := wBn n 0; have b1 := wBn n 1; have b2 := wBn n 2; have b3 := wBn n 3; simp only [Int.reducePow] at b0 b1 b2 b3; simp only [wordF, e, if_true, wordV, chr, c0, c1, c2, c3]
 congr 1
 show ((wB n 0).toNat : Int) + ((wB n 1).toNat : Int) * 256 + ((wB n 2).toNat : Int) * 65536 + ((wB n 3).toNat : Int) * 16777216 = n
 rw [b0, b1, b2, b3]; omega
theorem idxB_first {l rest : List UInt8} (h : (0 : UInt8) ∉ l) : idxB (l ++ [0] ++ rest) 0 = l.length := by
 induction l with
 | nil => simp [idxB]
 | cons b l ih =>
  have hb : ¬ b = 0 := fun e => h (by simp [e])
  have := ih (fun e => h (by simp [e])); rw [List.cons_append, List.cons_append, idxB, if_neg (by simpa using hb), this, if_neg (by simp)]
  simp
theorem ba_ext {s t : ByteArray} (h : s.data.toList = t.data.toList) : s = t := by
 obtain ⟨⟨a⟩⟩ := s; obtain ⟨⟨b⟩⟩ := t; simp only at h; rw [h]
theorem text_back {s : ByteArray} {a : Nat} {t : ByteArray} {rest : List UInt8} (ht : textOk t) (h : s.data.toList.drop a = (t.data.toList ++ [0]) ++ rest) : textF s ⟨a, false⟩ = (t, ⟨a + (t.size + 1), false⟩) := by
 have hi := idxB_first (rest := rest) ht.2; rw [<- h, len_data] at hi; have hz := at_size h (by simp); simp only [List.length_append, List.length_singleton, len_data] at hz; rw [textF, if_neg (by simp)]
 show (if idxB (s.data.toList.drop a) 0 < 0 \/ idxB (s.data.toList.drop a) 0 > 64 then _ else _) = _
 have := ht.1; rw [hi, if_neg (by omega)]; have he : s.extract a (a + ((t.size : Nat) : Int).toNat) = t := by
  apply ba_ext
  rw [ex_list, h, Int.toNat_natCast, Nat.add_sub_cancel_left, List.append_assoc, <- len_data, List.take_left]
 show (s.extract a (a + ((t.size : Nat) : Int).toNat), _) = _
 rw [he]
 rfl
theorem encV_cases (f : Fc) : (∃ s : ByteArray, encV f = [sv s, iv 0] /\ FaceP f /\ (∀ x ∈ encI f, itOk x) /\ s.data.toList = itsB (encI f) /\ s.size <= 131072) \/ ∃ e, e ≠ 0 /\ encV f = [sv nl, iv e] := by
 unfold encV fileF
 split
 ·rename_i hF
  split
  ·exact .inr ⟨1, by decide, rfl⟩
  ·rename_i h
   split
   ·exact .inr ⟨2, by decide, rfl⟩
   ·rename_i h2
    exact .inl ⟨_, rfl, hF, fun x hx => Classical.byContradiction fun h' => h ⟨x, hx, h'⟩, rfl, by show (itsB (encI f)).toArray.size <= _; rw [List.size_toArray]; omega⟩
 ·exact .inr ⟨160, by decide, rfl⟩
theorem encV_zero {f : Fc} {s : ByteArray} (h : encV f = [sv s, iv 0]) : FaceP f /\ (∀ x ∈ encI f, itOk x) /\ s.data.toList = itsB (encI f) := by
 rcases encV_cases f with ⟨t, h1, h2, h3, h4, _⟩ | ⟨e, he, h1⟩
 ·rw [h1] at h
  simp only [List.cons.injEq, AV.d.injEq, Dat.v.injEq, Value.string.injEq, and_true] at h; subst h; exact ⟨h2, h3, h4⟩
 ·rw [h1] at h
  simp only [List.cons.injEq, AV.d.injEq, Dat.v.injEq, Value.int.injEq, and_true, true_and] at h; exact absurd h.2 he
theorem stepT {s : ByteArray} {a : Nat} {t : ByteArray} {l : List It} {rest : List UInt8} (h : s.data.toList.drop a = itsB (iT t :: l) ++ rest) (ht : textOk t) : ∃ b, textF s ⟨a, false⟩ = (t, ⟨b, false⟩) /\ s.data.toList.drop b = itsB l ++ rest := by
 have e : itB (iT t) = t.data.toList ++ [0] := by rw [itB, if_neg (by simp), if_neg (by simp), if_neg (by simp), if_pos ht]
 rw [itsB_1, e] at h; refine ⟨_, text_back ht h, ?_⟩; rw [<- List.drop_drop, h, show t.size + 1 = (t.data.toList ++ [(0 : UInt8)]).length by rw [List.length_append, len_data]; rfl, List.drop_left]
theorem stepN {s : ByteArray} {a : Nat} {n : Int} {l : List It} {rest : List UInt8} (h : s.data.toList.drop a = itsB (iN n :: l) ++ rest) (hn : fit32 n) : ∃ b, numF s ⟨a, false⟩ = (n, ⟨b, false⟩) /\ s.data.toList.drop b = itsB l ++ rest := by
 have e : itB (iN n) = comp7 n := by rw [itB, if_neg (by simp), if_pos rfl, if_pos hn]
 rw [itsB_1, e] at h; refine ⟨_, num_back hn h, ?_⟩; rw [<- List.drop_drop, h, List.drop_left]
theorem stepB {s : ByteArray} {a : Nat} {n : Int} {l : List It} {rest : List UInt8} (h : s.data.toList.drop a = itsB (iB n :: l) ++ rest) (hn : 0 <= n /\ n < 256) : ∃ b, byteF s ⟨a, false⟩ = (n, ⟨b, false⟩) /\ s.data.toList.drop b = itsB l ++ rest := by
 have e : itB (iB n) = byteW n := by rw [itB, if_pos rfl]
 rw [itsB_1, e] at h; have := byte_back h; rw [show n % 256 = n by omega] at this; refine ⟨_, this, ?_⟩; rw [<- List.drop_drop, h, show 1 = (byteW n).length from rfl, List.drop_left]
theorem stepW {s : ByteArray} {a : Nat} {n : Int} {l : List It} {rest : List UInt8} (h : s.data.toList.drop a = itsB (iW n :: l) ++ rest) (hn : 0 <= n /\ n < 4294967296) : ∃ b, wordF s ⟨a, false⟩ = (n, ⟨b, false⟩) /\ s.data.toList.drop b = itsB l ++ rest := by
 have e : itB (iW n) = wordB n := by rw [itB, if_neg (by simp), if_neg (by simp), if_pos rfl]
 rw [itsB_1, e] at h; refine ⟨_, word_back hn.1 hn.2 h, ?_⟩; rw [<- List.drop_drop, h, show 4 = (wordB n).length from rfl, List.drop_left]
def Back {α : Type} (s : ByteArray) (f : Way α) (g : List It) (x : α) : Prop := ∀ a rest, s.data.toList.drop a = itsB g ++ rest -> ∃ b, f ⟨a, false⟩ = (x, ⟨b, false⟩) /\ s.data.toList.drop b = rest
theorem loop_b {α : Type} {s : ByteArray} {f : Way α} {g : α -> List It} : ∀ (xs : List α), (∀ x ∈ xs, Back s f (g x) x) -> ∀ a rest, s.data.toList.drop a = itsB (xs.flatMap g) ++ rest -> ∃ b, loopL f xs.length ⟨a, false⟩ = (xs, ⟨b, false⟩) /\ s.data.toList.drop b = rest
 | [], _, a, rest, h => ⟨a, rfl, by rw [List.flatMap_nil, itsB_0] at h; exact h⟩
 | x :: xs, hx, a, rest, h => by
  rw [List.flatMap_cons, itsB_app] at h; obtain ⟨b, e1, h1⟩ := hx x (by simp) a _ h; obtain ⟨c, e2, h2⟩ := loop_b xs (fun y hy => hx y (by simp [hy])) b rest h1; refine ⟨c, ?_, h2⟩; rw [List.length_cons, loopL, if_neg (by simp), e1]; simp only [e2]
theorem list_b {α : Type} {s : ByteArray} {f : Way α} {g : α -> List It} {xs : List α} {l : List It} (hx : ∀ x ∈ xs, Back s f (g x) x) (hn : fit32 xs.length) {a : Nat} {rest : List UInt8} (h : s.data.toList.drop a = itsB (iN xs.length :: (xs.flatMap g ++ l)) ++ rest) : ∃ b, listF s f ⟨a, false⟩ = (xs, ⟨b, false⟩) /\ s.data.toList.drop b = itsB l ++ rest := by
 obtain ⟨b, e1, h1⟩ := stepN h hn; rw [itsB_app] at h1; obtain ⟨c, e2, h2⟩ := loop_b xs hx b _ h1; refine ⟨c, ?_, h2⟩; rw [listF, bnd, e1]; simp only [Int.toNat_natCast, e2]
theorem fd_b (s : ByteArray) (f : Fd) (h : ∀ x ∈ fdI f, itOk x) : Back s (fdF s) (fdI f) f := fun a rest h0 => by
 obtain ⟨b0, b1, b2⟩ := flag_b f.exp; obtain ⟨a1, e1, h1⟩ := stepT h0 (okT (h (iT f.name) (by simp [fdI]))); obtain ⟨a2, e2, h2⟩ := stepB h1 ⟨b0, b1⟩; obtain ⟨a3, e3, h3⟩ := stepN h2 (okN (h (iN f.typ) (by simp [fdI]))); exact ⟨a3, by simp only [fdF, bnd, mp, e1, e2, e3, b2], h3⟩
theorem pm_b (s : ByteArray) (f : Pm) (h : ∀ x ∈ pmI f, itOk x) : Back s (pmF s) (pmI f) f := fun a rest h0 => by
 obtain ⟨b0, b1, b2⟩ := flag_b f.var; obtain ⟨a2, e2, h2⟩ := stepB h0 ⟨b0, b1⟩; obtain ⟨a3, e3, h3⟩ := stepN h2 (okN (h (iN f.typ) (by simp [pmI]))); exact ⟨a3, by simp only [pmF, bnd, mp, e2, e3, b2], h3⟩
theorem us_b (s : ByteArray) (u : Us) (h : ∀ x ∈ usI u, itOk x) (hk : 0 <= u.key /\ u.key < 4294967296) : Back s (usF s) (usI u) u := fun a rest h0 => by
 obtain ⟨a1, e1, h1⟩ := stepT h0 (okT (h (iT u.name) (by simp [usI]))); obtain ⟨a3, e3, h3⟩ := stepW h1 hk; exact ⟨a3, by simp only [usF, bnd, mp, e1, e3], h3⟩
theorem ob_b (s : ByteArray) (o : Ob) (h : ∀ x ∈ obI o, itOk x) (hc : 0 <= o.cls /\ o.cls < 256) (hv : 0 <= o.val.form /\ o.val.form < 256) (hn : o.val.form = 4 -> 0 <= o.val.n /\ o.val.n < 4294967296) : Back s (obF s) (obI o) o := fun a rest h0 => by
 obtain ⟨a0, e0, h0⟩ := stepB h0 hc; obtain ⟨a1, e1, h1⟩ := stepT h0 (okT (h (iT o.name) (by simp [obI]))); obtain ⟨a2, e2, h2⟩ := stepN h1 (okN (h (iN o.typ) (by simp [obI]))); obtain ⟨a3, e3, h3⟩ := stepB h2 hv; obtain ⟨a4, e4, h4⟩ := stepN h3 (okN (h (iN (numV o.val)) (by simp [obI]))); obtain ⟨a5, e5, h5⟩ := stepT h4 (okT (h (iT o.val.text) (by simp [obI]))); obtain ⟨a6, e6, h6⟩ := stepN h5 (okN (h (iN o.n) (by simp [obI]))); exact ⟨a6, by simp only [obF, bnd, mp, e0, e1, e2, e3, e4, e5, e6, numR_ok hn], h6⟩
theorem ty_b (s : ByteArray) (t : Ty) (h : ∀ x ∈ tyI t, itOk x) (hf : 0 <= t.form /\ t.form < 256) : Back s (tyF s) (tyI t) t := fun a rest h0 => by
 have m1 : ∀ f ∈ t.fields, ∀ x ∈ fdI f, itOk x := fun f hf x hx => h x (by
  rw [tyI]; exact List.mem_append_right _ (List.mem_append_left _ (List.mem_flatMap.2 ⟨f, hf, hx⟩)))
 have m2 : ∀ f ∈ t.params, ∀ x ∈ pmI f, itOk x := fun f hf x hx => h x (by
  rw [tyI]; exact List.mem_append_right _ (List.mem_append_right _ (List.mem_append_right _ (List.mem_flatMap.2 ⟨f, hf, hx⟩))))
 rw [tyI] at h0; simp only [List.cons_append, List.nil_append] at h0; obtain ⟨a0, e0, h0⟩ := stepB h0 hf; obtain ⟨a1, e1, h1⟩ := stepT h0 (okT (h (iT t.mod) (by simp [tyI]))); obtain ⟨a2, e2, h2⟩ := stepT h1 (okT (h (iT t.name) (by simp [tyI]))); obtain ⟨a3, e3, h3⟩ := stepN h2 (okN (h (iN t.len) (by simp [tyI]))); obtain ⟨a4, e4, h4⟩ := stepN h3 (okN (h (iN t.elem) (by simp [tyI]))); obtain ⟨a5, e5, h5⟩ := stepN h4 (okN (h (iN t.base) (by simp [tyI]))); obtain ⟨a6, e6, h6⟩ := stepN h5 (okN (h (iN t.result) (by simp [tyI]))); obtain ⟨a7, e7, h7⟩ := stepN h6 (okN (h (iN t.desc) (by simp [tyI]))); obtain ⟨a8, e8, h8⟩ := list_b (fun f hf => fd_b s f (m1 f hf)) (okN (h (iN t.fields.length) (by simp [tyI]))) h7; rw [show iN t.params.length :: List.flatMap pmI t.params = iN t.params.length :: (List.flatMap pmI t.params ++ []) by rw [List.append_nil]] at h8; obtain ⟨a9, e9, h9⟩ := list_b (fun f hf => pm_b s f (m2 f hf)) (okN (h (iN t.params.length) (by simp [tyI]))) h8; exact ⟨a9, by simp only [tyF, bnd, mp, e0, e1, e2, e3, e4, e5, e6, e7, e8, e9], h9⟩
theorem fc_b (s : ByteArray) {f : Fc} (hF : FaceP f) (hk : KeyP f) (h : ∀ x ∈ encI f, itOk x) {rest : List UInt8} (h0 : s.data.toList = itsB (encI f) ++ rest) : ∃ a b, textF s ⟨0, false⟩ = (headB, ⟨a, false⟩) /\ fcF s ⟨a, false⟩ = (f, ⟨b, false⟩) /\ s.data.toList.drop b = rest := by
 have m1 : ∀ u ∈ f.uses, ∀ x ∈ usI u, itOk x := fun u hu x hx => h x (by
  rw [encI]; exact List.mem_append_right _ (List.mem_append_left _ (List.mem_flatMap.2 ⟨u, hu, hx⟩)))
 have m2 : ∀ u ∈ f.types.drop 7, ∀ x ∈ tyI u, itOk x := fun u hu x hx => h x (by
  rw [encI]; exact List.mem_append_right _ (List.mem_append_right _ (List.mem_append_right _ (List.mem_append_left _ (List.mem_flatMap.2 ⟨u, hu, hx⟩)))))
 have m3 : ∀ u ∈ f.objs, ∀ x ∈ obI u, itOk x := fun u hu x hx => h x (by
  rw [encI]; exact List.mem_append_right _ (List.mem_append_right _ (List.mem_append_right _ (List.mem_append_right _ (List.mem_append_right _ (List.mem_flatMap.2 ⟨u, hu, hx⟩))))))
 have h0 : s.data.toList.drop 0 = itsB (encI f) ++ rest := h0; rw [encI] at h0; simp only [List.cons_append, List.nil_append] at h0; obtain ⟨a0, e0, h0⟩ := stepT h0 tx_spsy; obtain ⟨a1, e1, h1⟩ := stepT h0 (okT (h (iT f.name) (by simp [encI]))); obtain ⟨a2, e2, h2⟩ := stepW h1 hk.1; obtain ⟨a3, e3, h3⟩ := list_b (fun u hu => us_b s u (m1 u hu) (hk.2 u hu)) (okN (h (iN f.uses.length) (by simp [encI]))) h2; obtain ⟨a4, e4, h4⟩ := list_b (fun u hu => ty_b s u (m2 u hu) (face_form hF u hu)) (okN (h (iN (f.types.drop 7).length) (by simp [encI]))) h3; rw [show iN f.objs.length :: List.flatMap obI f.objs = iN f.objs.length :: (List.flatMap obI f.objs ++ []) by rw [List.append_nil]] at h4; obtain ⟨a5, e5, h5⟩ := list_b (fun u hu => ob_b s u (m3 u hu) (ob_form (hF.ob u hu)).1 (ob_form (hF.ob u hu)).2.1 (ob_form (hF.ob u hu)).2.2) (okN (h (iN f.objs.length) (by simp [encI]))) h4; refine ⟨a0, a5, e0, ?_, h5⟩; simp only [fcF, bnd, mp, e1, e2, e3, e4, e5, <- face_types hF]
def hdF (s : ByteArray) : ByteArray × Rd := textF s ⟨0, false⟩
noncomputable def decR (s : ByteArray) : Fc × Rd := fcF s (hdF s).2
def DecP (s : ByteArray) : Prop := (hdF s).1 = headB /\ endF s (decR s).2 = true /\ encV (decR s).1 = [sv s, iv 0]
def zF : Fc := ⟨se, 0, [], [], []⟩
open Classical in
noncomputable def decV (s : ByteArray) : List AV := if DecP s then [(decR s).1.av, iv 0] else [zF.av, iv 170]
theorem dec_of {s : ByteArray} {f : Fc} (hk : KeyP f) (h : encV f = [sv s, iv 0]) : (decR s).1 = f /\ DecP s := by
 obtain ⟨h1, h2, h3⟩ := encV_zero h; obtain ⟨a, b, e1, e2, e3⟩ := fc_b s h1 hk h2 (rest := []) (by rw [List.append_nil]; exact h3); have ed : decR s = (f, ⟨b, false⟩) := by rw [decR, hdF, e1]; exact e2
 have hb : b <= s.size := by
  have l0 := (text_r s).le ⟨0, false⟩ (Nat.zero_le _); rw [e1] at l0; have := (fc_r s).le ⟨a, false⟩ l0; rw [e2] at this; exact this
 have hb2 : s.size <= b := by
  have := congrArg List.length e3; rw [List.length_drop, len_data, List.length_nil] at this; omega
 refine ⟨by rw [ed], by rw [hdF, e1], ?_, by rw [ed]; exact h⟩; rw [ed, endF]
 simp; omega
theorem dec_key (s : ByteArray) : FcR s (decR s).1 /\ (decR s).2.a <= s.size := by
 have l0 := (text_r s).le ⟨0, false⟩ (Nat.zero_le _); exact ⟨(fc_r s).ok _ l0, (fc_r s).le _ l0⟩
theorem decV_yes {s : ByteArray} {f : Fc} (hk : KeyP f) (h : encV f = [sv s, iv 0]) : decV s = [f.av, iv 0] := by
 obtain ⟨h1, h2⟩ := dec_of hk h; rw [decV, if_pos h2, h1]
theorem decV_cases (s : ByteArray) : (∃ f : Fc, FcR s f /\ encV f = [sv s, iv 0] /\ decV s = [f.av, iv 0]) \/ ((∀ f : Fc, KeyP f -> encV f ≠ [sv s, iv 0]) /\ decV s = [zF.av, iv 170]) := by
 by_cases h : DecP s
 ·exact .inl ⟨(decR s).1, (dec_key s).1, h.2.2, by rw [decV, if_pos h]⟩
 ·exact .inr ⟨fun f hk he => h (dec_of hk he).2, by rw [decV, if_neg h]⟩
theorem FcR.key {s : ByteArray} {f : Fc} (h : FcR s f) : KeyP f := h.ky
theorem FcR.fin {s : ByteArray} {f : Fc} (hs : s.size <= 300000) (h : FcR s f) : FIn f where
 nm := by have := h.nm; omega
 us := by have := h.ul; omega
 os := by have := h.ol; omega
 ty := ⟨by have := h.tl; omega, fun x hx => by
  have k := h.ty x hx; exact ⟨by have := k.fl; omega, by have := k.pl; omega, by have := k.md; omega, by have := k.nm; omega⟩⟩
 fn := fun x hx y hy => by have := ((h.ty x hx).fd y hy).1; omega
 ob := fun o ho => by
  obtain ⟨h1, h2, h3, ⟨h4, h5, h6⟩, h7⟩ := h.ob o ho; exact ⟨by omega, h3, ⟨h4, h5, by omega⟩, h7⟩
 un := fun u hu => by have := (h.us u hu).1; omega
theorem FcR.small {s : ByteArray} {f : Fc} (hs : s.size <= 300000) (h : FcR s f) : Small f.types := ⟨by have := h.tl; omega, fun x hx => by
 have k := h.ty x hx; have h1 := k.md; have h2 := k.nm; have h3 := k.fl; have h4 := k.pl; exact ⟨by omega, by omega, by omega, by omega⟩⟩
end Go.Proofs.YthifjndenhjobaaGreat.Rid
