/- Reading back. -/
import Derived.Test.YthifjndenhjobaaXD1a
import Derived.Test.YthifjndenhjobaaXC4
namespace Go.Proofs.Ythifjndenhjobaa.Rid
set_option linter.unusedSimpArgs false
set_option linter.unusedVariables false
set_option maxRecDepth 20000
set_option maxHeartbeats 1000000
open Go.RowKit

theorem stepT {s : ByteArray} {a : Nat} {t : ByteArray} {l : List It} {rest : List UInt8} (h : s.data.toList.drop a = itsB (iT t :: l) ++ rest) (ht : textOk t) : ∃ b, textF s ⟨a, false⟩ = (t, ⟨b, false⟩) ∧ s.data.toList.drop b = itsB l ++ rest := by
 have e : itB (iT t) = t.data.toList ++ [0] := by rw [itB, if_neg (by simp), if_neg (by simp), if_neg (by simp), if_pos ht]
 rw [itsB_1, e] at h
 refine ⟨_, text_back ht h, ?_⟩
 rw [← List.drop_drop, h, show t.size + 1 = (t.data.toList ++ [(0 : UInt8)]).length by rw [List.length_append, len_data]; rfl, List.drop_left]
theorem stepN {s : ByteArray} {a : Nat} {n : Int} {l : List It} {rest : List UInt8} (h : s.data.toList.drop a = itsB (iN n :: l) ++ rest) (hn : fit32 n) : ∃ b, numF s ⟨a, false⟩ = (n, ⟨b, false⟩) ∧ s.data.toList.drop b = itsB l ++ rest := by
 have e : itB (iN n) = comp7 n := by rw [itB, if_neg (by simp), if_pos rfl, if_pos hn]
 rw [itsB_1, e] at h
 refine ⟨_, num_back hn h, ?_⟩
 rw [← List.drop_drop, h, List.drop_left]
theorem stepB {s : ByteArray} {a : Nat} {n : Int} {l : List It} {rest : List UInt8} (h : s.data.toList.drop a = itsB (iB n :: l) ++ rest) (hn : 0 ≤ n ∧ n < 256) : ∃ b, byteF s ⟨a, false⟩ = (n, ⟨b, false⟩) ∧ s.data.toList.drop b = itsB l ++ rest := by
 have e : itB (iB n) = byteW n := by rw [itB, if_pos rfl]
 rw [itsB_1, e] at h
 have := byte_back h
 rw [show n % 256 = n by omega] at this
 refine ⟨_, this, ?_⟩
 rw [← List.drop_drop, h, show 1 = (byteW n).length from rfl, List.drop_left]
theorem stepW {s : ByteArray} {a : Nat} {n : Int} {l : List It} {rest : List UInt8} (h : s.data.toList.drop a = itsB (iW n :: l) ++ rest) (hn : 0 ≤ n ∧ n < 4294967296) : ∃ b, wordF s ⟨a, false⟩ = (n, ⟨b, false⟩) ∧ s.data.toList.drop b = itsB l ++ rest := by
 have e : itB (iW n) = wordB n := by rw [itB, if_neg (by simp), if_neg (by simp), if_pos rfl]
 rw [itsB_1, e] at h
 refine ⟨_, word_back hn.1 hn.2 h, ?_⟩
 rw [← List.drop_drop, h, show 4 = (wordB n).length from rfl, List.drop_left]
def Back {α : Type} (s : ByteArray) (f : Way α) (g : List It) (x : α) : Prop := ∀ a rest, s.data.toList.drop a = itsB g ++ rest → ∃ b, f ⟨a, false⟩ = (x, ⟨b, false⟩) ∧ s.data.toList.drop b = rest
theorem loop_b {α : Type} {s : ByteArray} {f : Way α} {g : α → List It} : ∀ (xs : List α), (∀ x ∈ xs, Back s f (g x) x) → ∀ a rest, s.data.toList.drop a = itsB (xs.flatMap g) ++ rest → ∃ b, loopL f xs.length ⟨a, false⟩ = (xs, ⟨b, false⟩) ∧ s.data.toList.drop b = rest
 | [], _, a, rest, h => ⟨a, rfl, by rw [List.flatMap_nil, itsB_0] at h; exact h⟩
 | x :: xs, hx, a, rest, h => by
  rw [List.flatMap_cons, itsB_app] at h
  obtain ⟨b, e1, h1⟩ := hx x (by simp) a _ h
  obtain ⟨c, e2, h2⟩ := loop_b xs (fun y hy => hx y (by simp [hy])) b rest h1
  refine ⟨c, ?_, h2⟩
  rw [List.length_cons, loopL, if_neg (by simp), e1]
  simp only [e2]
theorem list_b {α : Type} {s : ByteArray} {f : Way α} {g : α → List It} {xs : List α} {l : List It} (hx : ∀ x ∈ xs, Back s f (g x) x) (hn : fit32 xs.length) {a : Nat} {rest : List UInt8} (h : s.data.toList.drop a = itsB (iN xs.length :: (xs.flatMap g ++ l)) ++ rest) : ∃ b, listF s f ⟨a, false⟩ = (xs, ⟨b, false⟩) ∧ s.data.toList.drop b = itsB l ++ rest := by
 obtain ⟨b, e1, h1⟩ := stepN h hn
 rw [itsB_app] at h1
 obtain ⟨c, e2, h2⟩ := loop_b xs hx b _ h1
 refine ⟨c, ?_, h2⟩
 rw [listF, bnd, e1]
 simp only [Int.toNat_natCast, e2]
theorem fd_b (s : ByteArray) (f : Fd) (h : ∀ x ∈ fdI f, itOk x) : Back s (fdF s) (fdI f) f := fun a rest h0 => by
 obtain ⟨b0, b1, b2⟩ := flag_b f.exp
 obtain ⟨a1, e1, h1⟩ := stepT h0 (okT (h (iT f.name) (by simp [fdI])))
 obtain ⟨a2, e2, h2⟩ := stepB h1 ⟨b0, b1⟩
 obtain ⟨a3, e3, h3⟩ := stepN h2 (okN (h (iN f.typ) (by simp [fdI])))
 exact ⟨a3, by simp only [fdF, bnd, mp, e1, e2, e3, b2], h3⟩
theorem pm_b (s : ByteArray) (f : Pm) (h : ∀ x ∈ pmI f, itOk x) : Back s (pmF s) (pmI f) f := fun a rest h0 => by
 obtain ⟨b0, b1, b2⟩ := flag_b f.var
 obtain ⟨a2, e2, h2⟩ := stepB h0 ⟨b0, b1⟩
 obtain ⟨a3, e3, h3⟩ := stepN h2 (okN (h (iN f.typ) (by simp [pmI])))
 exact ⟨a3, by simp only [pmF, bnd, mp, e2, e3, b2], h3⟩
theorem us_b (s : ByteArray) (u : Us) (h : ∀ x ∈ usI u, itOk x) (hk : 0 ≤ u.key ∧ u.key < 4294967296) : Back s (usF s) (usI u) u := fun a rest h0 => by
 obtain ⟨a1, e1, h1⟩ := stepT h0 (okT (h (iT u.name) (by simp [usI])))
 obtain ⟨a3, e3, h3⟩ := stepW h1 hk
 exact ⟨a3, by simp only [usF, bnd, mp, e1, e3], h3⟩
theorem ob_b (s : ByteArray) (o : Ob) (h : ∀ x ∈ obI o, itOk x) (hc : 0 ≤ o.cls ∧ o.cls < 256) (hv : 0 ≤ o.val.form ∧ o.val.form < 256) (hn : o.val.form = 4 → 0 ≤ o.val.n ∧ o.val.n < 4294967296) : Back s (obF s) (obI o) o := fun a rest h0 => by
 obtain ⟨a0, e0, h0⟩ := stepB h0 hc
 obtain ⟨a1, e1, h1⟩ := stepT h0 (okT (h (iT o.name) (by simp [obI])))
 obtain ⟨a2, e2, h2⟩ := stepN h1 (okN (h (iN o.typ) (by simp [obI])))
 obtain ⟨a3, e3, h3⟩ := stepB h2 hv
 obtain ⟨a4, e4, h4⟩ := stepN h3 (okN (h (iN (numV o.val)) (by simp [obI])))
 obtain ⟨a5, e5, h5⟩ := stepT h4 (okT (h (iT o.val.text) (by simp [obI])))
 obtain ⟨a6, e6, h6⟩ := stepN h5 (okN (h (iN o.n) (by simp [obI])))
 exact ⟨a6, by simp only [obF, bnd, mp, e0, e1, e2, e3, e4, e5, e6, numR_ok hn], h6⟩
theorem ty_b (s : ByteArray) (t : Ty) (h : ∀ x ∈ tyI t, itOk x) (hf : 0 ≤ t.form ∧ t.form < 256) : Back s (tyF s) (tyI t) t := fun a rest h0 => by
 have m1 : ∀ f ∈ t.fields, ∀ x ∈ fdI f, itOk x := fun f hf x hx => h x (by
  rw [tyI]; exact List.mem_append_right _ (List.mem_append_left _ (List.mem_flatMap.2 ⟨f, hf, hx⟩)))
 have m2 : ∀ f ∈ t.params, ∀ x ∈ pmI f, itOk x := fun f hf x hx => h x (by
  rw [tyI]; exact List.mem_append_right _ (List.mem_append_right _ (List.mem_append_right _ (List.mem_flatMap.2 ⟨f, hf, hx⟩))))
 rw [tyI] at h0
 simp only [List.cons_append, List.nil_append] at h0
 obtain ⟨a0, e0, h0⟩ := stepB h0 hf
 obtain ⟨a1, e1, h1⟩ := stepT h0 (okT (h (iT t.mod) (by simp [tyI])))
 obtain ⟨a2, e2, h2⟩ := stepT h1 (okT (h (iT t.name) (by simp [tyI])))
 obtain ⟨a3, e3, h3⟩ := stepN h2 (okN (h (iN t.len) (by simp [tyI])))
 obtain ⟨a4, e4, h4⟩ := stepN h3 (okN (h (iN t.elem) (by simp [tyI])))
 obtain ⟨a5, e5, h5⟩ := stepN h4 (okN (h (iN t.base) (by simp [tyI])))
 obtain ⟨a6, e6, h6⟩ := stepN h5 (okN (h (iN t.result) (by simp [tyI])))
 obtain ⟨a7, e7, h7⟩ := stepN h6 (okN (h (iN t.desc) (by simp [tyI])))
 obtain ⟨a8, e8, h8⟩ := list_b (fun f hf => fd_b s f (m1 f hf)) (okN (h (iN t.fields.length) (by simp [tyI]))) h7
 rw [show iN t.params.length :: List.flatMap pmI t.params = iN t.params.length :: (List.flatMap pmI t.params ++ []) by rw [List.append_nil]] at h8
 obtain ⟨a9, e9, h9⟩ := list_b (fun f hf => pm_b s f (m2 f hf)) (okN (h (iN t.params.length) (by simp [tyI]))) h8
 exact ⟨a9, by simp only [tyF, bnd, mp, e0, e1, e2, e3, e4, e5, e6, e7, e8, e9], h9⟩
end Go.Proofs.Ythifjndenhjobaa.Rid

/- What Decode answers, plainly. -/
namespace Go.Proofs.Ythifjndenhjobaa.Rid
set_option linter.unusedSimpArgs false
set_option linter.unusedVariables false
set_option maxRecDepth 20000
set_option maxHeartbeats 1000000
open Go.RowKit

theorem fc_b (s : ByteArray) {f : Fc} (hF : FaceP f) (hk : KeyP f) (h : ∀ x ∈ encI f, itOk x) {rest : List UInt8} (h0 : s.data.toList = itsB (encI f) ++ rest) : ∃ a b, textF s ⟨0, false⟩ = (headB, ⟨a, false⟩) ∧ fcF s ⟨a, false⟩ = (f, ⟨b, false⟩) ∧ s.data.toList.drop b = rest := by
 have m1 : ∀ u ∈ f.uses, ∀ x ∈ usI u, itOk x := fun u hu x hx => h x (by
  rw [encI]; exact List.mem_append_right _ (List.mem_append_left _ (List.mem_flatMap.2 ⟨u, hu, hx⟩)))
 have m2 : ∀ u ∈ f.types.drop 7, ∀ x ∈ tyI u, itOk x := fun u hu x hx => h x (by
  rw [encI]; exact List.mem_append_right _ (List.mem_append_right _ (List.mem_append_right _ (List.mem_append_left _ (List.mem_flatMap.2 ⟨u, hu, hx⟩)))))
 have m3 : ∀ u ∈ f.objs, ∀ x ∈ obI u, itOk x := fun u hu x hx => h x (by
  rw [encI]; exact List.mem_append_right _ (List.mem_append_right _ (List.mem_append_right _ (List.mem_append_right _ (List.mem_append_right _ (List.mem_flatMap.2 ⟨u, hu, hx⟩))))))
 have h0 : s.data.toList.drop 0 = itsB (encI f) ++ rest := h0
 rw [encI] at h0
 simp only [List.cons_append, List.nil_append] at h0
 obtain ⟨a0, e0, h0⟩ := stepT h0 tx_spsy
 obtain ⟨a1, e1, h1⟩ := stepT h0 (okT (h (iT f.name) (by simp [encI])))
 obtain ⟨a2, e2, h2⟩ := stepW h1 hk.1
 obtain ⟨a3, e3, h3⟩ := list_b (fun u hu => us_b s u (m1 u hu) (hk.2 u hu)) (okN (h (iN f.uses.length) (by simp [encI]))) h2
 obtain ⟨a4, e4, h4⟩ := list_b (fun u hu => ty_b s u (m2 u hu) (face_form hF u hu)) (okN (h (iN (f.types.drop 7).length) (by simp [encI]))) h3
 rw [show iN f.objs.length :: List.flatMap obI f.objs = iN f.objs.length :: (List.flatMap obI f.objs ++ []) by rw [List.append_nil]] at h4
 obtain ⟨a5, e5, h5⟩ := list_b (fun u hu => ob_b s u (m3 u hu) (ob_form (hF.ob u hu)).1 (ob_form (hF.ob u hu)).2.1 (ob_form (hF.ob u hu)).2.2) (okN (h (iN f.objs.length) (by simp [encI]))) h4
 refine ⟨a0, a5, e0, ?_, h5⟩
 simp only [fcF, bnd, mp, e1, e2, e3, e4, e5, ← face_types hF]
def hdF (s : ByteArray) : ByteArray × Rd := textF s ⟨0, false⟩
noncomputable def decR (s : ByteArray) : Fc × Rd := fcF s (hdF s).2
def DecP (s : ByteArray) : Prop := (hdF s).1 = headB ∧ endF s (decR s).2 = true ∧ encV (decR s).1 = [sv s, iv 0]
def zF : Fc := ⟨se, 0, [], [], []⟩
open Classical in
noncomputable def decV (s : ByteArray) : List AV := if DecP s then [(decR s).1.av, iv 0] else [zF.av, iv 170]
theorem dec_of {s : ByteArray} {f : Fc} (hk : KeyP f) (h : encV f = [sv s, iv 0]) : (decR s).1 = f ∧ DecP s := by
 obtain ⟨h1, h2, h3⟩ := encV_zero h
 obtain ⟨a, b, e1, e2, e3⟩ := fc_b s h1 hk h2 (rest := []) (by rw [List.append_nil]; exact h3)
 have ed : decR s = (f, ⟨b, false⟩) := by rw [decR, hdF, e1]; exact e2
 have hb : b ≤ s.size := by
  have l0 := (text_r s).le ⟨0, false⟩ (Nat.zero_le _)
  rw [e1] at l0
  have := (fc_r s).le ⟨a, false⟩ l0
  rw [e2] at this
  exact this
 have hb2 : s.size ≤ b := by
  have := congrArg List.length e3
  rw [List.length_drop, len_data, List.length_nil] at this
  omega
 refine ⟨by rw [ed], by rw [hdF, e1], ?_, by rw [ed]; exact h⟩
 rw [ed, endF]
 simp; omega
theorem dec_key (s : ByteArray) : FcR s (decR s).1 ∧ (decR s).2.a ≤ s.size := by
 have l0 := (text_r s).le ⟨0, false⟩ (Nat.zero_le _)
 exact ⟨(fc_r s).ok _ l0, (fc_r s).le _ l0⟩
theorem decV_yes {s : ByteArray} {f : Fc} (hk : KeyP f) (h : encV f = [sv s, iv 0]) : decV s = [f.av, iv 0] := by
 obtain ⟨h1, h2⟩ := dec_of hk h
 rw [decV, if_pos h2, h1]
theorem decV_cases (s : ByteArray) : (∃ f : Fc, FcR s f ∧ encV f = [sv s, iv 0] ∧ decV s = [f.av, iv 0]) ∨ ((∀ f : Fc, KeyP f → encV f ≠ [sv s, iv 0]) ∧ decV s = [zF.av, iv 170]) := by
 by_cases h : DecP s
 ·exact .inl ⟨(decR s).1, (dec_key s).1, h.2.2, by rw [decV, if_pos h]⟩
 ·exact .inr ⟨fun f hk he => h (dec_of hk he).2, by rw [decV, if_neg h]⟩
end Go.Proofs.Ythifjndenhjobaa.Rid

/- Plain laws about what is read and written. -/
namespace Go.Proofs.Ythifjndenhjobaa.Rid
set_option linter.unusedSimpArgs false
set_option linter.unusedVariables false
set_option maxRecDepth 20000
set_option maxHeartbeats 1000000
open Go.RowKit

theorem FcR.key {s : ByteArray} {f : Fc} (h : FcR s f) : KeyP f := h.ky
theorem FcR.fin {s : ByteArray} {f : Fc} (hs : s.size ≤ 300000) (h : FcR s f) : FIn f where
 nm := by have := h.nm; omega
 us := by have := h.ul; omega
 os := by have := h.ol; omega
 ty := ⟨by have := h.tl; omega, fun x hx => by
  have k := h.ty x hx
  exact ⟨by have := k.fl; omega, by have := k.pl; omega, by have := k.md; omega, by have := k.nm; omega⟩⟩
 fn := fun x hx y hy => by have := ((h.ty x hx).fd y hy).1; omega
 ob := fun o ho => by
  obtain ⟨h1, h2, h3, ⟨h4, h5, h6⟩, h7⟩ := h.ob o ho
  exact ⟨by omega, h3, ⟨h4, h5, by omega⟩, h7⟩
 un := fun u hu => by have := (h.us u hu).1; omega
theorem FcR.small {s : ByteArray} {f : Fc} (hs : s.size ≤ 300000) (h : FcR s f) : Small f.types := ⟨by have := h.tl; omega, fun x hx => by
 have k := h.ty x hx
 have h1 := k.md; have h2 := k.nm; have h3 := k.fl; have h4 := k.pl
 exact ⟨by omega, by omega, by omega, by omega⟩⟩
theorem enc_size {f : Fc} {s : ByteArray} (h : encV f = [sv s, iv 0]) : s.size ≤ 131072 := by
 obtain ⟨t, e, h1, h2⟩ := encV_two f
 rw [h1] at h
 simp only [List.cons.injEq, AV.d.injEq, Dat.v.injEq, Value.string.injEq, and_true] at h
 rw [← h.1]; exact h2
theorem enc_pre {s t : ByteArray} {f g : Fc} (hf : KeyP f) (hg : KeyP g) (h1 : encV f = [sv s, iv 0]) (h2 : encV g = [sv t, iv 0]) {rest : List UInt8} (h : s.data.toList = t.data.toList ++ rest) : rest = [] := by
 obtain ⟨a1, a2, a3⟩ := encV_zero h1
 obtain ⟨b1, b2, b3⟩ := encV_zero h2
 have k1 := pFc_ok a1 hf a2 []
 have k2 := pFc_ok b1 hg b2 rest
 rw [List.append_nil, ← a3, h, b3, k2] at k1
 simp only [Option.some.injEq, Prod.mk.injEq] at k1
 exact k1.2
theorem enc_ne {f : Fc} {s : ByteArray} (h : encV f = [sv s, iv 0]) : 0 < s.size := by
 obtain ⟨a1, a2, a3⟩ := encV_zero h
 have e : itB (iT ⟨#[83, 80, 83, 89]⟩) = [83, 80, 83, 89] ++ [0] := by rw [itB, if_neg (by simp), if_neg (by simp), if_neg (by simp), if_pos tx_spsy]
 rw [← len_data, a3, ← List.append_nil (itsB _), encI]
 simp only [List.cons_append, List.nil_append, itsB_1, e, List.length_cons]
 omega
theorem encV_keyF {f : Fc} {s : ByteArray} (k : Int) (h : encV f = [sv s, iv 0]) : ∃ t, encV (keyF f k) = [sv t, iv 0] := by
 obtain ⟨t, e1, hF, h3, h4, h5⟩ | ⟨e, he, h1⟩ := encV_cases f
 ·obtain ⟨A, B, hA⟩ : ∃ A B, ∀ k, encI (keyF f k) = A ++ iW k :: B := ⟨[iT ⟨#[83, 80, 83, 89]⟩, iT f.name], iN f.uses.length :: (f.uses.flatMap usI ++ ([iN (f.types.drop 7).length] ++ ((f.types.drop 7).flatMap tyI ++ ([iN f.objs.length] ++ f.objs.flatMap obI)))), fun k => rfl⟩
  have e0 : encI f = A ++ iW f.key :: B := hA f.key
  have hl : (itsB (encI (keyF f k))).length = (itsB (encI f)).length := by
   rw [e0, hA, itsB, itsB, List.flatMap_append, List.flatMap_append, List.flatMap_cons, List.flatMap_cons, List.length_append, List.length_append, List.length_append, List.length_append]
   have e : ∀ k, (itB (iW k)).length = 4 := fun k => by rw [itB, if_neg (by simp), if_neg (by simp), if_pos rfl]; rfl
   rw [e, e]
  have hs : (itsB (encI f)).length ≤ 131072 := by rw [← h4, len_data]; exact h5
  refine ⟨⟨(itsB (encI (keyF f k))).toArray⟩, ?_⟩
  rw [encV, if_pos ((keyF_face k).2 hF), fileF, if_neg, if_neg (by omega)]
  rintro ⟨x, hx, hn⟩
  refine hn ?_
  rw [hA] at hx
  rcases List.mem_append.1 hx with hx | hx
  ·exact h3 x (by rw [e0]; exact List.mem_append_left _ hx)
  ·rcases List.mem_cons.1 hx with rfl | hx
   ·exact ok_w k
   ·exact h3 x (by rw [e0]; exact List.mem_append_right _ (List.mem_cons_of_mem _ hx))
 ·rw [h1] at h
  simp only [List.cons.injEq, AV.d.injEq, Dat.v.injEq, Value.int.injEq, and_true, true_and] at h
  exact absurd h.2 he
theorem keyF_keyF (f : Fc) (a b : Int) : keyF (keyF f a) b = keyF f b := rfl
theorem keyV_keyF (f : Fc) (k : Int) : keyV (keyF f k) = keyV f := rfl
theorem keyV_ok {f : Fc} {s : ByteArray} (h : encV (keyF f 0) = [sv s, iv 0]) : keyV f = [wv (max (hashL s.data.toList) 1), iv 0] := by
 rw [keyV, h]; rfl
theorem keyV_no {f : Fc} {s : ByteArray} {e : Int} (he : e ≠ 0) (h : encV (keyF f 0) = [sv s, iv e]) : keyV f = [wv 0, iv e] := by
 rw [keyV, h]; exact if_neg he
theorem dec_cut {f : Fc} (kf : KeyP f) {s t : ByteArray} (h1 : encV f = [sv s, iv 0]) {rest : List UInt8} (h : s.data.toList = t.data.toList ++ rest) (hr : rest ≠ []) : decV t = [zF.av, iv 170] := by
 rcases decV_cases t with ⟨g, hg, e2, _⟩ | ⟨_, e⟩
 ·exact absurd (enc_pre kf hg.ky h1 e2 h) hr
 ·exact e
theorem dec_more {f : Fc} (kf : KeyP f) {s t : ByteArray} (h1 : encV f = [sv s, iv 0]) {rest : List UInt8} (h : t.data.toList = s.data.toList ++ rest) (hr : rest ≠ []) : decV t = [zF.av, iv 170] := by
 rcases decV_cases t with ⟨g, hg, e2, _⟩ | ⟨_, e⟩
 ·exact absurd (enc_pre hg.ky kf e2 h1 h) hr
 ·exact e
theorem key_cases (f : Fc) : (∃ s k, encV (keyF f 0) = [sv s, iv 0] ∧ 1 ≤ k ∧ keyV f = [wv k, iv 0]) ∨ ∃ e, e ≠ 0 ∧ keyV f = [wv 0, iv e] := by
 rcases encV_cases (keyF f 0) with ⟨s, h, _⟩ | ⟨e, he, h⟩
 ·exact .inl ⟨s, _, h, Int.le_max_right _ _, keyV_ok h⟩
 ·exact .inr ⟨e, he, keyV_no he h⟩
end Go.Proofs.Ythifjndenhjobaa.Rid
