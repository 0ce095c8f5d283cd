/- The reference's reading, plainly: its ways. -/
import Derived.Test.YthifjndenhjobaaGreatVD1a
import Derived.Test.YthifjndenhjobaaGreatVB5
import Derived.Test.YthifjndenhjobaaGreatVL1
set_option linter.unusedSectionVars false
set_option linter.unusedSimpArgs false
set_option linter.unusedVariables false
set_option maxHeartbeats 1000000
set_option maxRecDepth 20000
namespace Go.Proofs.YthifjndenhjobaaGreat.Rid
open Go.RowKit
def cntF (s : ByteArray) (m : Int) : Way Int := fun r => if 0 <= (numF s r).1 /\ (numF s r).1 <= m then numF s r else (0, ⟨(numF s r).2.a, true⟩)
def flgF (s : ByteArray) : Way Bool := fun r => (decide ((byteF s r).1 = 1), if (byteF s r).1 <= 1 then (byteF s r).2 else ⟨(byteF s r).2.a, true⟩)
def rlF {α : Type} (s : ByteArray) (m : Int) (f : Way α) : Way (List α) := bnd (cntF s m) fun n => loopL f n.toNat
def rfdF (s : ByteArray) : Way Fd := bnd (textF s) fun x => bnd (flgF s) fun y => mp (numF s) fun z => ⟨x, y, z⟩
def rpmF (s : ByteArray) : Way Pm := bnd (flgF s) fun y => mp (numF s) fun z => ⟨y, z⟩
def rtyF (s : ByteArray) : Way Ty := bnd (byteF s) fun a0 => bnd (textF s) fun a1 => bnd (textF s) fun a2 => bnd (numF s) fun a3 => bnd (numF s) fun a4 => bnd (numF s) fun a5 => bnd (numF s) fun a6 => bnd (numF s) fun a7 => bnd (rlF s 64 (rfdF s)) fun a8 => mp (rlF s 64 (rpmF s)) fun a9 => ⟨a0, a1, a2, a3, a4, a5, a8, a9, a6, a7⟩
def rfcF (s : ByteArray) : Way Fc := bnd (textF s) fun a0 => bnd (wordF s) fun a1 => bnd (rlF s 16 (usF s)) fun a2 => bnd (rlF s 249 (rtyF s)) fun a3 => mp (rlF s 64 (obF s)) fun a4 => ⟨a0, a1, a2, basicL ++ a3, a4⟩
theorem cnt_r (s : ByteArray) {m : Int} (m0 : 0 <= m) : Rdr s (cntF s m) fun n => 0 <= n /\ n <= m := by
 have hn := num_r s; refine ⟨⟨fun r hr => ?_, fun r => ?_, fun r h => ?_, fun r hr => ?_⟩, fun r h => ?_⟩
 ·unfold cntF; split
  ·exact hn.le r hr
  ·exact hn.le r hr
 ·unfold cntF; split
  ·exact hn.on r
  ·exact hn.on r
 ·unfold cntF at h; split at h
  ·exact hn.st r h
  ·cases h
 ·unfold cntF; split
  ·rename_i h; exact h
  ·exact ⟨Int.le_refl 0, m0⟩
 ·unfold cntF at h ⊢; split at h
  ·rename_i hc; rw [if_pos hc]; exact hn.go r h
  ·cases h
theorem flg_r (s : ByteArray) : Rdr s (flgF s) fun _ => True := by
 have hn := byte_r s; refine ⟨⟨fun r hr => ?_, fun r => ?_, fun r h => ?_, fun r hr => trivial⟩, fun r h => ?_⟩
 ·unfold flgF; split
  ·exact hn.le r hr
  ·exact hn.le r hr
 ·unfold flgF; split
  ·exact hn.on r
  ·exact hn.on r
 ·unfold flgF at h; split at h
  ·exact hn.st r h
  ·cases h
 ·unfold flgF at h ⊢; split at h
  ·rename_i hc; rw [if_pos hc]; exact hn.go r h
  ·cases h
theorem rl_r {α : Type} {s : ByteArray} {f : Way α} {A : α -> Prop} {m : Int} (m0 : 0 <= m) (hf : Rdr s f A) : Rdr s (rlF s m f) fun l => l.length <= s.size + 1 /\ ∀ x ∈ l, A x :=
 (cnt_r s m0).bnd (fun _ _ => loop_r hf _) (fun _ => (loop_r hf _).mono fun _ _ => trivial)
theorem rfd_r (s : ByteArray) : Rdr s (rfdF s) (FdR s) :=
 (text_r s).bnd (fun x hx => ((flg_r s).bnd (fun y _ => ((num_r s).mp fun z hz => ⟨hx, j64 hz⟩).toRdr0) (fun y => ((num_r s).mp fun z hz => trivial).toRdr0)).toRdr0)
   (fun x => ((flg_r s).bnd (fun y _ => ((num_r s).mp fun z hz => trivial).toRdr0) (fun y => ((num_r s).mp fun z hz => trivial).toRdr0)).toRdr0)
theorem rpm_r (s : ByteArray) : Rdr s (rpmF s) (PmR s) :=
 (flg_r s).bnd (fun y _ => ((num_r s).mp (h := fun z => (⟨y, z⟩ : Pm)) (B := PmR s) fun z hz => j64 hz).toRdr0) (fun y => ((num_r s).mp fun z hz => trivial).toRdr0)
theorem rty_r (s : ByteArray) : Rdr s (rtyF s) (TyR s) := by
 have h : Rdr s (rtyF s) fun _ => True := (byte_r s).bn fun _ => (text_r s).bn fun _ => (text_r s).bn fun _ => (num_r s).bn fun _ => (num_r s).bn fun _ => (num_r s).bn fun _ => (num_r s).bn fun _ => (num_r s).bn fun _ => (rl_r (by decide) (rfd_r s)).bn fun _ => (rl_r (by decide) (rpm_r s)).mt
 refine h.wth fun r hr => ?_
 have l0 := (byte_r s).le r hr; have l1 := (text_r s).le _ l0; have l2 := (text_r s).le _ l1; have l3 := (num_r s).le _ l2; have l4 := (num_r s).le _ l3; have l5 := (num_r s).le _ l4; have l6 := (num_r s).le _ l5; have l7 := (num_r s).le _ l6; have l8 := (rl_r (m := 64) (by decide) (rfd_r s)).le _ l7; have k8 := (rl_r (m := 64) (by decide) (rfd_r s)).ok _ l7; have k9 := (rl_r (m := 64) (by decide) (rpm_r s)).ok _ l8; exact ⟨(text_r s).ok _ l0, (text_r s).ok _ l1, k8.1, k9.1, k8.2, k9.2⟩
theorem rfc_r (s : ByteArray) : Rdr s (rfcF s) (FcR s) := by
 have h : Rdr s (rfcF s) fun _ => True := (text_r s).bn fun _ => (word_r s).bn fun _ => (rl_r (by decide) (us_r s)).bn fun _ => (rl_r (by decide) (rty_r s)).bn fun _ => (rl_r (by decide) (ob_r s)).mt
 refine h.wth fun r hr => ?_
 have l0 := (text_r s).le r hr; have l1 := (word_r s).le _ l0; have l2 := (rl_r (m := 16) (by decide) (us_r s)).le _ l1; have l3 := (rl_r (m := 249) (by decide) (rty_r s)).le _ l2; have k2 := (rl_r (m := 16) (by decide) (us_r s)).ok _ l1; have k3 := (rl_r (m := 249) (by decide) (rty_r s)).ok _ l2; have k4 := (rl_r (m := 64) (by decide) (ob_r s)).ok _ l3; refine ⟨(text_r s).ok _ hr, ⟨(word_r s).ok _ l0, fun u hu => (k2.2 u hu).2⟩, k2.1, ?_, k4.1, k2.2, fun t ht => ?_, k4.2⟩
 ·show (basicL ++ _).length <= _
  rw [List.length_append]; have := k3.1
  show 7 + _ <= _
  omega
 ·rcases List.mem_append.1 ht with h1 | h1
  ·have hz : ∀ t ∈ basicL, t.mod.size = 0 /\ t.name.size = 0 /\ t.fields = [] /\ t.params = [] := by
    intro t ht
    obtain ⟨i, hi, rfl⟩ := List.mem_iff_getElem.1 ht; have hb := basic_at (show i < 7 from hi); rw [gD, gE hi, Option.getD_some] at hb; rw [hb]; exact ⟨rfl, rfl, rfl, rfl⟩
   obtain ⟨z1, z2, z3, z4⟩ := hz t h1; exact ⟨by omega, by omega, by rw [z3]; simp, by rw [z4]; simp, by rw [z3]; simp, by rw [z4]; simp⟩
  ·exact k3.2 t h1
inductive Grp : List UInt8 -> Int -> Prop
 | last (c : UInt8) : c.toNat < 128 -> Grp [c] (if 64 <= c.toNat then (c.toNat : Int) - 128 else c.toNat)
 | more (c : UInt8) (r : List UInt8) (v : Int) : 128 <= c.toNat -> Grp r v -> Grp (c :: r) ((c.toNat % 128 : Nat) + 128 * v)
theorem Grp.pos {l : List UInt8} {v : Int} (h : Grp l v) : 0 < l.length := by cases h <;> simp
theorem dec_grp : ∀ (d : Nat) (l : List UInt8) (k : Nat) (n : Int) (p : Int × Nat), dec d l k n = some p -> ∃ m v, p.2 = k + m /\ m <= l.length /\ Grp (l.take m) v /\ p.1 = n + v * 128 ^ k /\ (comp7 p.1).length = p.2 /\ fit32 p.1
 | 0, _, _, _, _, h => by simp [dec] at h
 | d + 1, [], _, _, _, h => by simp [dec] at h
 | d + 1, c :: l, k, n, p, h => by
  rw [dec] at h
  split at h
  ·rename_i hc
   obtain ⟨m, v, h1, h2, h3, h4, h5⟩ := dec_grp d l (k + 1) _ p h; refine ⟨m + 1, (c.toNat % 128 : Nat) + 128 * v, by omega, by rw [List.length_cons]; omega, .more c _ v hc h3, ?_, h5⟩; rw [h4, Int.pow_succ, Int.add_mul, <- Int.add_assoc, Int.mul_comm (128 ^ k) 128, <- Int.mul_assoc, Int.mul_comm v 128]
  ·rename_i hc
   have hm : (if 64 <= c.toNat then n + ((c.toNat % 128 : Nat) : Int) * 128 ^ k - 128 ^ (k + 1) else n + ((c.toNat % 128 : Nat) : Int) * 128 ^ k) = n + (if 64 <= c.toNat then (c.toNat : Int) - 128 else c.toNat) * 128 ^ k := by
    have e : ((c.toNat % 128 : Nat) : Int) = c.toNat := by omega
    rw [e]
    split
    ·rw [Int.pow_succ, Int.sub_mul, Int.mul_comm (128 ^ k) 128]; omega
    ·rfl
   generalize (if 64 <= c.toNat then n + ((c.toNat % 128 : Nat) : Int) * 128 ^ k - 128 ^ (k + 1) else n + ((c.toNat % 128 : Nat) : Int) * 128 ^ k) = m at h hm
   by_cases hf : fit32 m /\ (comp7 m).length = k + 1
   ·have h : (if fit32 m /\ (comp7 m).length = k + 1 then some (m, k + 1) else none) = some p := h
    rw [if_pos hf] at h; simp only [Option.some.injEq] at h; subst h; exact ⟨1, _, rfl, by simp, .last c (by omega), hm, hf.2, hf.1⟩
   ·have h : (if fit32 m /\ (comp7 m).length = k + 1 then some (m, k + 1) else none) = some p := h
    rw [if_neg hf] at h
    cases h
theorem cmp_grp {l : List UInt8} {v : Int} (h : Grp l v) : ∀ f, (cmp f v).length = l.length -> cmp f v = l := by
 induction h with
 | last c hc =>
  intro f _
  generalize hv : (if 64 <= c.toNat then (c.toNat : Int) - 128 else c.toNat) = v
  have hr : -64 <= v /\ v <= 63 := by rw [<- hv]; split <;> omega
  have hg : g7 v = c := by
   have h1 := g7n v; have h2 : v % 128 = c.toNat := by rw [<- hv]; split <;> omega
   exact UInt8.toNat_inj.1 (by omega)
  cases f with
  | zero => rw [cmp, hg]
  | succ f => rw [cmp, if_pos hr, hg]
 | more c r v hc hr ih =>
  intro f hl
  have hp := hr.pos; have hc2 := c.toNat_lt; rw [List.length_cons] at hl
  cases f with
  | zero => rw [cmp, List.length_singleton] at hl; omega
  | succ f =>
   rw [cmp] at hl ⊢
   split at hl
   ·rw [List.length_singleton] at hl; omega
   ·rename_i hn
    rw [if_neg hn]; have e : (((c.toNat % 128 : Nat) : Int) + 128 * v) / 128 = v := by omega
    rw [e] at hl ⊢; rw [List.length_cons] at hl; rw [ih f (by omega)]; have h1 := h7n (((c.toNat % 128 : Nat) : Int) + 128 * v); rw [show h7 (((c.toNat % 128 : Nat) : Int) + 128 * v) = c from UInt8.toNat_inj.1 (by omega)]
theorem decN_can {l : List UInt8} {p : Int × Nat} (h : decN l = some p) : l = comp7 p.1 ++ l.drop p.2 /\ fit32 p.1 := by
 obtain ⟨m, v, h1, h2, h3, h4, h5, h6⟩ := dec_grp 5 l 0 0 p h; have e : p.1 = v := by rw [h4, Int.pow_zero]; omega
 have hm : p.2 = m := by omega
 rw [hm] at h5 ⊢; rw [e] at h5 h6 ⊢; have := cmp_grp h3 4 (by rw [List.length_take, Nat.min_eq_left h2]; exact h5); exact ⟨by rw [comp7, this, List.take_append_drop], h6⟩
theorem canN {s : ByteArray} {r : Rd} (h : (numF s r).2.bad = false) : r.bad = false /\ s.data.toList.drop r.a = comp7 (numF s r).1 ++ s.data.toList.drop (numF s r).2.a /\ fit32 (numF s r).1 := by
 unfold numF at h ⊢
 split at h
 ·rename_i hb; rw [hb] at h; cases h
 ·rename_i hb
  rw [if_neg hb]; refine ⟨by simpa using hb, ?_⟩
  split at h
  ·rename_i p hp
   obtain ⟨h1, h2⟩ := decN_can hp; simp only [hp]; rw [<- List.drop_drop]; exact ⟨h1, h2⟩
  ·cases h
theorem take_can {s : ByteArray} {r : Rd} {n : Nat} (h : (takeF s r n).2.2.bad = false) : r.bad = false /\ (takeF s r n).2.1 = true /\ (takeF s r n).2.2.a = r.a + n /\ (r.a + n : Int) <= s.size := by
 unfold takeF at h ⊢
 split at h
 ·rename_i hb; rw [hb] at h; cases h
 ·rename_i hb
  rw [if_neg hb]
  split at h
  ·cases h
  ·rename_i hn
   rw [if_neg hn]; exact ⟨by simpa using hb, rfl, by show r.a + (n : Int).toNat = _; omega, by omega⟩
theorem drop_cons {l : List UInt8} {a : Nat} (h : a < l.length) : l.drop a = l.getD a 0 :: l.drop (a + 1) := by
 rw [List.drop_eq_getElem_cons h, gD, gE h]; rfl
theorem canB {s : ByteArray} {r : Rd} (h : (byteF s r).2.bad = false) : r.bad = false /\ s.data.toList.drop r.a = byteW (byteF s r).1 ++ s.data.toList.drop (byteF s r).2.a := by
 obtain ⟨h1, h2, h3, h4⟩ := take_can (n := 1) h; refine ⟨h1, ?_⟩; rw [byteF]
 show _ = byteW (if (takeF s r 1).2.1 = true then chr s r.a else 0) ++ s.data.toList.drop (takeF s r 1).2.2.a
 have h2 : (takeF s r 1).2.1 = true := h2; have h3 : (takeF s r 1).2.2.a = r.a + 1 := h3; rw [if_pos h2, h3, drop_cons (by rw [len_data]; omega), chr, byteW]; have := (s.data.toList.getD r.a 0).toNat_lt; rw [show UInt8.ofNat ((((s.data.toList.getD r.a 0).toNat : Nat) : Int) % 256).toNat = s.data.toList.getD r.a 0 from UInt8.toNat_inj.1 (by rw [u8n (by omega)]; omega)]
 rfl
theorem canW {s : ByteArray} {r : Rd} (h : (wordF s r).2.bad = false) : r.bad = false /\ s.data.toList.drop r.a = wordB (wordF s r).1 ++ s.data.toList.drop (wordF s r).2.a := by
 obtain ⟨h1, h2, h3, h4⟩ := take_can (n := 4) h; refine ⟨h1, ?_⟩; rw [wordF]
 show _ = wordB (if (takeF s r 4).2.1 = true then wordV s r.a else 0) ++ s.data.toList.drop (takeF s r 4).2.2.a
 have h2 : (takeF s r 4).2.1 = true := h2; have h3 : (takeF s r 4).2.2.a = r.a + 4 := h3; rw [if_pos h2, h3, drop_cons (by rw [len_data]; omega), drop_cons (a := r.a + 1) (by rw [len_data]; omega), drop_cons (a := r.a + 1 + 1) (by rw [len_data]; omega), drop_cons (a := r.a + 1 + 1 + 1) (by rw [len_data]; omega), wordB]; have b0 := (s.data.toList.getD r.a 0).toNat_lt; have b1 := (s.data.toList.getD (r.a + 1) 0).toNat_lt; have b2 := (s.data.toList.getD (r.a + 2) 0).toNat_lt; have b3 := (s.data.toList.getD (r.a + 3) 0).toNat_lt; have w0 := wBn (wordV s r.a) 0; have w1 := wBn (wordV s r.a) 1; have w2 := wBn (wordV s r.a) 2; have w3 := wBn (wordV s r.a) 3; simp only [Int.reducePow, wordV, chr] at w0 w1 w2 w3; rw [show wB (wordV s r.a) 0 = s.data.toList.getD r.a 0 from UInt8.toNat_inj.1 (by simp only [wordV, chr]; omega), show wB (wordV s r.a) 1 = s.data.toList.getD (r.a + 1) 0 from UInt8.toNat_inj.1 (by simp only [wordV, chr]; omega),
  show wB (wordV s r.a) 2 = s.data.toList.getD (r.a + 2) 0 from UInt8.toNat_inj.1 (by simp only [wordV, chr]; omega), show wB (wordV s r.a) 3 = s.data.toList.getD (r.a + 3) 0 from UInt8.toNat_inj.1 (by simp only [wordV, chr]; omega)]
 rfl
theorem idxB_ge : ∀ (l : List UInt8) (c : UInt8), -1 <= idxB l c
 | [], _ => by simp [idxB]
 | b :: l, c => by
  have := idxB_ge l c
  unfold idxB
  split
  ·omega
  ·split <;> omega
theorem idx_can : ∀ (l : List UInt8), 0 <= idxB l 0 -> (0 : UInt8) ∉ l.take (idxB l 0).toNat /\ l.drop (idxB l 0).toNat = 0 :: l.drop ((idxB l 0).toNat + 1)
 | [], h => by simp [idxB] at h
 | b :: l, h => by
  have hg := idxB_ge l 0; rw [idxB] at h ⊢
  by_cases hb : b = 0
  ·subst hb
   rw [if_pos (by simp)]
   simp
  ·rw [if_neg (by simpa using hb)] at h ⊢
   by_cases h1 : idxB l 0 = -1
   ·rw [if_pos (by simpa using h1)] at h; omega
   ·rw [if_neg (by simpa using h1)] at h ⊢
    obtain ⟨i1, i2⟩ := idx_can l (by omega); rw [show (idxB l 0 + 1).toNat = (idxB l 0).toNat + 1 by omega, List.take_succ_cons, List.drop_succ_cons, List.drop_succ_cons]; refine ⟨fun h0 => ?_, i2⟩; rcases List.mem_cons.1 h0 with h0 | h0
    ·exact hb h0.symm
    ·exact i1 h0
theorem canT {s : ByteArray} {r : Rd} (h : (textF s r).2.bad = false) : r.bad = false /\ s.data.toList.drop r.a = ((textF s r).1.data.toList ++ [0]) ++ s.data.toList.drop (textF s r).2.a /\ textOk (textF s r).1 := by
 unfold textF at h ⊢
 split at h
 ·rename_i hb; rw [hb] at h; cases h
 ·rename_i hb
  rw [if_neg hb]
  split at h
  ·cases h
  ·rename_i hi
   rw [if_neg hi]; obtain ⟨i, hie⟩ : ∃ i : Nat, idxB (s.data.toList.drop r.a) 0 = i := ⟨(idxB (s.data.toList.drop r.a) 0).toNat, by omega⟩; obtain ⟨h1, h2⟩ := idx_can (s.data.toList.drop r.a) (by omega); rw [hie] at hi h1 h2 ⊢; simp only [Int.toNat_natCast] at h1 h2 ⊢; have hl : i < (s.data.toList.drop r.a).length := by
    have := congrArg List.length h2; rw [List.length_drop, List.length_cons] at this; omega
   have hlist : (s.extract r.a (r.a + i)).data.toList = (s.data.toList.drop r.a).take i := by rw [ex_list, Nat.add_sub_cancel_left]
   refine ⟨by simpa using hb, ?_, ?_, ?_⟩
   ·rw [hlist, List.append_assoc, Nat.add_assoc, <- List.drop_drop, List.singleton_append, <- h2, List.take_append_drop]
   ·rw [<- len_data, hlist, List.length_take]; omega
   ·rw [hlist]; exact h1
def Can {α : Type} (s : ByteArray) (f : Way α) (g : α -> List It) : Prop := ∀ r, r.a <= s.size -> (f r).2.bad = false -> s.data.toList.drop r.a = itsB (g (f r).1) ++ s.data.toList.drop (f r).2.a /\ ∀ x ∈ g (f r).1, itOk x
theorem bT {t : ByteArray} (h : textOk t) : itB (iT t) = t.data.toList ++ [0] := by rw [itB, if_neg (by simp), if_neg (by simp), if_neg (by simp), if_pos h]
theorem bN {n : Int} (h : fit32 n) : itB (iN n) = comp7 n := by rw [itB, if_neg (by simp), if_pos rfl, if_pos h]
theorem bB (n : Int) : itB (iB n) = byteW n := by rw [itB, if_pos rfl]
theorem bW (n : Int) : itB (iW n) = wordB n := by rw [itB, if_neg (by simp), if_neg (by simp), if_pos rfl]
theorem loop_can {α : Type} {s : ByteArray} {f : Way α} {A : α -> Prop} {g : α -> List It} (hf : Rdr s f A) (hc : Can s f g) : ∀ (n : Nat) (r : Rd), r.a <= s.size -> (loopL f n r).2.bad = false -> r.bad = false /\ (loopL f n r).1.length = n /\ s.data.toList.drop r.a = itsB ((loopL f n r).1.flatMap g) ++ s.data.toList.drop (loopL f n r).2.a /\ ∀ x ∈ (loopL f n r).1.flatMap g, itOk x
 | 0, r, _, h => ⟨h, rfl, rfl, fun x hx => by cases hx⟩
 | n + 1, r, hr, h => by
  by_cases hb : r.bad = true
  ·rw [loopL_bad f _ hb] at h
   have h : r.bad = false := h; rw [h] at hb; cases hb
  ·rw [loopL, if_neg hb] at h ⊢
   have h : (loopL f n (f r).2).2.bad = false := h; obtain ⟨i1, i2, i3, i4⟩ := loop_can hf hc n (f r).2 (hf.le r hr) h; obtain ⟨j1, j2⟩ := hc r hr i1; refine ⟨by simpa using hb, by show _ + 1 = _; rw [i2], ?_, fun x hx => ?_⟩
   ·show _ = itsB (((f r).1 :: (loopL f n (f r).2).1).flatMap g) ++ s.data.toList.drop (loopL f n (f r).2).2.a
    rw [List.flatMap_cons, itsB_app, <- i3, <- j1]
   ·have hx : x ∈ ((f r).1 :: (loopL f n (f r).2).1).flatMap g := hx
    rw [List.flatMap_cons] at hx; rcases List.mem_append.1 hx with hx | hx
    ·exact j2 x hx
    ·exact i4 x hx
theorem rl_can {α : Type} {s : ByteArray} {f : Way α} {A : α -> Prop} {g : α -> List It} {m : Int} (m0 : 0 <= m) (hf : Rdr s f A) (hc : Can s f g) (r : Rd) (hr : r.a <= s.size) (h : (rlF s m f r).2.bad = false) : r.bad = false /\ s.data.toList.drop r.a = comp7 (rlF s m f r).1.length ++ (itsB ((rlF s m f r).1.flatMap g) ++ s.data.toList.drop (rlF s m f r).2.a) /\ fit32 (rlF s m f r).1.length /\ ∀ x ∈ (rlF s m f r).1.flatMap g, itOk x := by
 have h : (loopL f (cntF s m r).1.toNat (cntF s m r).2).2.bad = false := h; obtain ⟨i1, i2, i3, i4⟩ := loop_can hf hc _ _ ((cnt_r s m0).le r hr) h; have hn : 0 <= (numF s r).1 /\ (numF s r).1 <= m := by
  by_cases hn : 0 <= (numF s r).1 /\ (numF s r).1 <= m
  ·exact hn
  ·rw [cntF, if_neg hn] at i1; cases i1
 have e : cntF s m r = numF s r := by rw [cntF, if_pos hn]
 rw [rlF, bnd]; rw [e] at i1 i2 i3 i4 ⊢; obtain ⟨j1, j2, j3⟩ := canN i1; have hl : (((loopL f (numF s r).1.toNat (numF s r).2).1.length : Nat) : Int) = (numF s r).1 := by rw [i2]; omega
 rw [hl]; exact ⟨j1, by rw [<- i3]; exact j2, j3, i4⟩
theorem flg_can {s : ByteArray} {r : Rd} (hr : r.a <= s.size) (h : (flgF s r).2.bad = false) : r.bad = false /\ s.data.toList.drop r.a = byteW (flagI (flgF s r).1) ++ s.data.toList.drop (flgF s r).2.a := by
 have hb := (byte_r s).ok r hr
 unfold flgF at h ⊢
 split at h
 ·rename_i h1
  obtain ⟨j1, j2⟩ := canB h; rw [if_pos h1]; refine ⟨j1, ?_⟩; have e : flagI (decide ((byteF s r).1 = 1)) = (byteF s r).1 := by
   by_cases e : (byteF s r).1 = 1
   ·rw [decide_eq_true e, e]; rfl
   ·rw [decide_eq_false e]
    show (0 : Int) = _
    omega
  show _ = byteW (flagI (decide ((byteF s r).1 = 1))) ++ _
  rw [e]; exact j2
 ·cases h
theorem okT' {t : ByteArray} (h : textOk t) : itOk (iT t) := ok_t h
theorem okN' {n : Int} (h : fit32 n) : itOk (iN n) := ok_n h
theorem fd_can (s : ByteArray) : Can s (rfdF s) fdI := fun r hr h => by
 have l1 := (text_r s).le r hr; have l2 := (flg_r s).le _ l1; obtain ⟨c1, c2, c3⟩ := canN (r := (flgF s (textF s r).2).2) h; obtain ⟨b1, b2⟩ := flg_can l1 c1; obtain ⟨a1, a2, a3⟩ := canT b1; refine ⟨?_, fun x hx => ?_⟩
 ·show _ = itsB (fdI ⟨(textF s r).1, (flgF s (textF s r).2).1, (numF s (flgF s (textF s r).2).2).1⟩) ++ s.data.toList.drop (numF s (flgF s (textF s r).2).2).2.a
  simp only [fdI, itsB_1, itsB_0, bT a3, bB, bN c3]; rw [<- c2, <- b2, <- a2]
 ·have hx : x ∈ [iT (textF s r).1, iB (flagI (flgF s (textF s r).2).1), iN (numF s (flgF s (textF s r).2).2).1] := hx
  simp only [List.mem_cons, List.not_mem_nil, or_false] at hx; rcases hx with rfl | rfl | rfl
  ·exact okT' a3
  ·exact ok_b _
  ·exact okN' c3
theorem pm_can (s : ByteArray) : Can s (rpmF s) pmI := fun r hr h => by
 obtain ⟨c1, c2, c3⟩ := canN (r := (flgF s r).2) h; obtain ⟨b1, b2⟩ := flg_can hr c1; refine ⟨?_, fun x hx => ?_⟩
 ·show _ = itsB (pmI ⟨(flgF s r).1, (numF s (flgF s r).2).1⟩) ++ s.data.toList.drop (numF s (flgF s r).2).2.a
  simp only [pmI, itsB_1, itsB_0, bB, bN c3]; rw [<- c2, <- b2]
 ·have hx : x ∈ [iB (flagI (flgF s r).1), iN (numF s (flgF s r).2).1] := hx
  simp only [List.mem_cons, List.not_mem_nil, or_false] at hx; rcases hx with rfl | rfl
  ·exact ok_b _
  ·exact okN' c3
theorem us_can (s : ByteArray) : Can s (usF s) usI := fun r hr h => by
 obtain ⟨c1, c2⟩ := canW (r := (textF s r).2) h; obtain ⟨a1, a2, a3⟩ := canT c1; refine ⟨?_, fun x hx => ?_⟩
 ·show _ = itsB (usI ⟨(textF s r).1, (wordF s (textF s r).2).1⟩) ++ s.data.toList.drop (wordF s (textF s r).2).2.a
  simp only [usI, itsB_1, itsB_0, bT a3, bW]; rw [<- c2, <- a2]
 ·have hx : x ∈ [iT (textF s r).1, iW (wordF s (textF s r).2).1] := hx
  simp only [List.mem_cons, List.not_mem_nil, or_false] at hx; rcases hx with rfl | rfl
  ·exact okT' a3
  ·exact ok_w _
theorem numV_numR (f n : Int) (t : ByteArray) (h : fit32 n) : numV ⟨f, numR f n, t⟩ = n := by
 have h1 := h.1; have h2 := h.2
 by_cases e : f = 4
 ·subst e
  show (if (4 : Int) = 4 then sg32 (numR 4 n) else numR 4 n) = n
  rw [if_pos rfl, numR, if_pos rfl, sg32]
  split <;> omega
 ·show (if f = 4 then sg32 (numR f n) else numR f n) = n
  rw [if_neg e, numR, if_neg e]
theorem ob_can (s : ByteArray) : Can s (obF s) obI := fun r hr h => by
 obtain ⟨y0, q0, e0⟩ : ∃ y q, byteF s r = (y, q) := ⟨_, _, rfl⟩; obtain ⟨y1, q1, e1⟩ : ∃ y q, textF s q0 = (y, q) := ⟨_, _, rfl⟩; obtain ⟨y2, q2, e2⟩ : ∃ y q, numF s q1 = (y, q) := ⟨_, _, rfl⟩; obtain ⟨y3, q3, e3⟩ : ∃ y q, byteF s q2 = (y, q) := ⟨_, _, rfl⟩; obtain ⟨y4, q4, e4⟩ : ∃ y q, numF s q3 = (y, q) := ⟨_, _, rfl⟩; obtain ⟨y5, q5, e5⟩ : ∃ y q, textF s q4 = (y, q) := ⟨_, _, rfl⟩; obtain ⟨y6, q6, e6⟩ : ∃ y q, numF s q5 = (y, q) := ⟨_, _, rfl⟩; have e : obF s r = ((⟨y0, y1, y2, ⟨y3, numR y3 y4, y5⟩, y6⟩ : Ob), q6) := by simp only [obF, bnd, mp, e0, e1, e2, e3, e4, e5, e6]
 rw [e] at h ⊢; have h : q6.bad = false := h; have c6 := canN (s := s) (r := q5); rw [e6] at c6; obtain ⟨h6, a6, f6⟩ := c6 h; have c5 := canT (s := s) (r := q4); rw [e5] at c5; obtain ⟨h5, a5, f5⟩ := c5 h6; have c4 := canN (s := s) (r := q3); rw [e4] at c4; obtain ⟨h4, a4, f4⟩ := c4 h5; have c3 := canB (s := s) (r := q2); rw [e3] at c3; obtain ⟨h3, a3⟩ := c3 h4; have c2 := canN (s := s) (r := q1); rw [e2] at c2; obtain ⟨h2, a2, f2⟩ := c2 h3; have c1 := canT (s := s) (r := q0); rw [e1] at c1; obtain ⟨h1, a1, f1⟩ := c1 h2; have c0 := canB (s := s) (r := r); rw [e0] at c0; obtain ⟨h0, a0⟩ := c0 h1; simp only at a0 a1 a2 a3 a4 a5 a6 f1 f2 f4 f5 f6; have nv := numV_numR y3 y4 y5 f4; refine ⟨?_, fun x hx => ?_⟩
 ·simp only [obI, itsB_1, itsB_0, nv, bB, bT f1, bT f5, bN f2, bN f4, bN f6]
  rw [<- a6, <- a5, <- a4, <- a3, <- a2, <- a1, <- a0]
 ·simp only [obI, nv, List.mem_cons, List.not_mem_nil, or_false] at hx
  rcases hx with rfl | rfl | rfl | rfl | rfl | rfl | rfl
  ·exact ok_b _
  ·exact okT' f1
  ·exact okN' f2
  ·exact ok_b _
  ·exact okN' f4
  ·exact okT' f5
  ·exact okN' f6
theorem ty_can (s : ByteArray) : Can s (rtyF s) tyI := fun r hr h => by
 obtain ⟨y0, q0, e0⟩ : ∃ y q, byteF s r = (y, q) := ⟨_, _, rfl⟩; obtain ⟨y1, q1, e1⟩ : ∃ y q, textF s q0 = (y, q) := ⟨_, _, rfl⟩; obtain ⟨y2, q2, e2⟩ : ∃ y q, textF s q1 = (y, q) := ⟨_, _, rfl⟩; obtain ⟨y3, q3, e3⟩ : ∃ y q, numF s q2 = (y, q) := ⟨_, _, rfl⟩; obtain ⟨y4, q4, e4⟩ : ∃ y q, numF s q3 = (y, q) := ⟨_, _, rfl⟩; obtain ⟨y5, q5, e5⟩ : ∃ y q, numF s q4 = (y, q) := ⟨_, _, rfl⟩; obtain ⟨y6, q6, e6⟩ : ∃ y q, numF s q5 = (y, q) := ⟨_, _, rfl⟩; obtain ⟨y7, q7, e7⟩ : ∃ y q, numF s q6 = (y, q) := ⟨_, _, rfl⟩; obtain ⟨y8, q8, e8⟩ : ∃ y q, rlF s 64 (rfdF s) q7 = (y, q) := ⟨_, _, rfl⟩; obtain ⟨y9, q9, e9⟩ : ∃ y q, rlF s 64 (rpmF s) q8 = (y, q) := ⟨_, _, rfl⟩; have l0 := (byte_r s).le r hr; rw [e0] at l0; have l1 := (text_r s).le _ l0; rw [e1] at l1; have l2 := (text_r s).le _ l1; rw [e2] at l2; have l3 := (num_r s).le _ l2; rw [e3] at l3; have l4 := (num_r s).le _ l3; rw [e4] at l4; have l5 := (num_r s).le _ l4; rw [e5] at l5; have l6 := (num_r s).le _ l5; rw [e6] at l6; have l7 := (num_r s).le _ l6; rw [e7] at l7; have l8 := (rl_r (m := 64) (by decide) (rfd_r s)).le _ l7; rw [e8] at l8; have e : rtyF s r = ((⟨y0, y1, y2, y3, y4, y5, y8, y9, y6, y7⟩ : Ty), q9) := by simp only [rtyF, bnd, mp, e0, e1, e2, e3, e4, e5, e6, e7, e8, e9]
 rw [e] at h ⊢; have h : q9.bad = false := h; have c9 := rl_can (m := 64) (by decide) (rpm_r s) (pm_can s) q8 l8; rw [e9] at c9; obtain ⟨h9, a9, f9, g9⟩ := c9 h; have c8 := rl_can (m := 64) (by decide) (rfd_r s) (fd_can s) q7 l7; rw [e8] at c8; obtain ⟨h8, a8, f8, g8⟩ := c8 h9; have c7 := canN (s := s) (r := q6); rw [e7] at c7; obtain ⟨h7, a7, f7⟩ := c7 h8; have c6 := canN (s := s) (r := q5); rw [e6] at c6; obtain ⟨h6, a6, f6⟩ := c6 h7; have c5 := canN (s := s) (r := q4); rw [e5] at c5; obtain ⟨h5, a5, f5⟩ := c5 h6; have c4 := canN (s := s) (r := q3); rw [e4] at c4; obtain ⟨h4, a4, f4⟩ := c4 h5; have c3 := canN (s := s) (r := q2); rw [e3] at c3; obtain ⟨h3, a3, f3⟩ := c3 h4; have c2 := canT (s := s) (r := q1); rw [e2] at c2; obtain ⟨h2, a2, f2⟩ := c2 h3; have c1 := canT (s := s) (r := q0); rw [e1] at c1; obtain ⟨h1, a1, f1⟩ := c1 h2; have c0 := canB (s := s) (r := r); rw [e0] at c0; obtain ⟨h0, a0⟩ := c0 h1; simp only at a0 a1 a2 a3 a4 a5 a6 a7 a8 a9 f1 f2 f3 f4 f5 f6 f7 f8 f9 g8 g9; refine ⟨?_, fun x hx => ?_⟩
 ·simp only [tyI, itsB_app, itsB_1, itsB_0, bB, bT f1, bT f2, bN f3, bN f4, bN f5, bN f6, bN f7, bN f8, bN f9]
  rw [<- a9, <- a8, <- a7, <- a6, <- a5, <- a4, <- a3, <- a2, <- a1, <- a0]
 ·simp only [tyI, List.mem_append, List.mem_cons, List.not_mem_nil, or_false] at hx
  rcases hx with (rfl | rfl | rfl | rfl | rfl | rfl | rfl | rfl | rfl) | hx | rfl | hx
  ·exact ok_b _
  ·exact okT' f1
  ·exact okT' f2
  ·exact okN' f3
  ·exact okN' f4
  ·exact okN' f5
  ·exact okN' f6
  ·exact okN' f7
  ·exact okN' f8
  ·exact g8 x hx
  ·exact okN' f9
  ·exact g9 x hx
theorem ref_can {s : ByteArray} (h1 : (hdF s).1 = headB) (h : (rfcF s (hdF s).2).2.bad = false) : s.data.toList = itsB (encI (rfcF s (hdF s).2).1) ++ s.data.toList.drop (rfcF s (hdF s).2).2.a /\ ∀ x ∈ encI (rfcF s (hdF s).2).1, itOk x := by
 obtain ⟨y0, q0, e0⟩ : ∃ y q, textF s ⟨0, false⟩ = (y, q) := ⟨_, _, rfl⟩; obtain ⟨y1, q1, e1⟩ : ∃ y q, textF s q0 = (y, q) := ⟨_, _, rfl⟩; obtain ⟨y2, q2, e2⟩ : ∃ y q, wordF s q1 = (y, q) := ⟨_, _, rfl⟩; obtain ⟨y3, q3, e3⟩ : ∃ y q, rlF s 16 (usF s) q2 = (y, q) := ⟨_, _, rfl⟩; obtain ⟨y4, q4, e4⟩ : ∃ y q, rlF s 249 (rtyF s) q3 = (y, q) := ⟨_, _, rfl⟩; obtain ⟨y5, q5, e5⟩ : ∃ y q, rlF s 64 (obF s) q4 = (y, q) := ⟨_, _, rfl⟩; have l0 := (text_r s).le ⟨0, false⟩ (Nat.zero_le _); rw [e0] at l0; have l1 := (text_r s).le _ l0; rw [e1] at l1; have l2 := (word_r s).le _ l1; rw [e2] at l2; have l3 := (rl_r (m := 16) (by decide) (us_r s)).le _ l2; rw [e3] at l3; have l4 := (rl_r (m := 249) (by decide) (rty_r s)).le _ l3; rw [e4] at l4; have eh : hdF s = (y0, q0) := e0; have e : rfcF s (hdF s).2 = ((⟨y1, y2, y3, basicL ++ y4, y5⟩ : Fc), q5) := by simp only [rfcF, eh, bnd, mp, e1, e2, e3, e4, e5]
 rw [e] at h ⊢; rw [eh] at h1; have h1 : y0 = headB := h1; subst h1; have h : q5.bad = false := h; have c5 := rl_can (m := 64) (by decide) (ob_r s) (ob_can s) q4 l4; rw [e5] at c5; obtain ⟨h5, a5, f5, g5⟩ := c5 h; have c4 := rl_can (m := 249) (by decide) (rty_r s) (ty_can s) q3 l3; rw [e4] at c4; obtain ⟨h4, a4, f4, g4⟩ := c4 h5; have c3 := rl_can (m := 16) (by decide) (us_r s) (us_can s) q2 l2; rw [e3] at c3; obtain ⟨h3, a3, f3, g3⟩ := c3 h4; have c2 := canW (s := s) (r := q1); rw [e2] at c2; obtain ⟨h2, a2⟩ := c2 h3; have c1 := canT (s := s) (r := q0); rw [e1] at c1; obtain ⟨h1, a1, f1⟩ := c1 h2; have c0 := canT (s := s) (r := ⟨0, false⟩); rw [e0] at c0; obtain ⟨_, a0, f0⟩ := c0 h1; simp only at a0 a1 a2 a3 a4 a5 f0 f1 f3 f4 f5 g3 g4 g5; have ed : (basicL ++ y4).drop 7 = y4 := rfl; rw [List.drop_zero] at a0; refine ⟨?_, fun x hx => ?_⟩
 ·simp only [encI, show (⟨#[83, 80, 83, 89]⟩ : ByteArray) = headB from rfl, ed, itsB_app, itsB_1, itsB_0, bW, bT f0, bT f1, bN f3, bN f4, bN f5]
  rw [<- a5, <- a4, <- a3, <- a2, <- a1, <- a0]
 ·simp only [encI, show (⟨#[83, 80, 83, 89]⟩ : ByteArray) = headB from rfl, ed, List.mem_append, List.mem_cons, List.not_mem_nil, or_false] at hx
  rcases hx with (rfl | rfl | rfl | rfl) | hx | rfl | hx | rfl | hx
  ·exact okT' f0
  ·exact okT' f1
  ·exact ok_w _
  ·exact okN' f3
  ·exact g3 x hx
  ·exact okN' f4
  ·exact g4 x hx
  ·exact okN' f5
  ·exact g5 x hx
theorem stepF {s : ByteArray} {a : Nat} {b : Bool} {l : List It} {rest : List UInt8} (h : s.data.toList.drop a = itsB (iB (flagI b) :: l) ++ rest) : ∃ c, flgF s ⟨a, false⟩ = (b, ⟨c, false⟩) /\ s.data.toList.drop c = itsB l ++ rest := by
 obtain ⟨b0, b1, b2⟩ := flag_b b; obtain ⟨c, e, h1⟩ := stepB h ⟨b0, b1⟩; have hb : flagI b <= 1 := by cases b <;> decide
 refine ⟨c, ?_, h1⟩; rw [flgF, e]; simp only [b2, if_pos hb]
theorem rl_b {α : Type} {s : ByteArray} {f : Way α} {g : α -> List It} {xs : List α} {l : List It} {m : Int} (hm : xs.length <= m) (hx : ∀ x ∈ xs, Back s f (g x) x) (hn : fit32 xs.length) {a : Nat} {rest : List UInt8} (h : s.data.toList.drop a = itsB (iN xs.length :: (xs.flatMap g ++ l)) ++ rest) : ∃ b, rlF s m f ⟨a, false⟩ = (xs, ⟨b, false⟩) /\ s.data.toList.drop b = itsB l ++ rest := by
 obtain ⟨b, e1, h1⟩ := stepN h hn; rw [itsB_app] at h1; obtain ⟨c, e2, h2⟩ := loop_b xs hx b _ h1; refine ⟨c, ?_, h2⟩; have e : cntF s m ⟨a, false⟩ = ((xs.length : Int), ⟨b, false⟩) := by
  rw [cntF, e1]; exact if_pos ⟨by show (0 : Int) <= xs.length; omega, hm⟩
 rw [rlF, bnd, e]; simp only [Int.toNat_natCast, e2]
theorem rfd_b (s : ByteArray) (f : Fd) (h : ∀ x ∈ fdI f, itOk x) : Back s (rfdF s) (fdI f) f := fun a rest h0 => by
 obtain ⟨a1, e1, h1⟩ := stepT h0 (okT (h (iT f.name) (by simp [fdI]))); obtain ⟨a2, e2, h2⟩ := stepF h1; obtain ⟨a3, e3, h3⟩ := stepN h2 (okN (h (iN f.typ) (by simp [fdI]))); exact ⟨a3, by simp only [rfdF, bnd, mp, e1, e2, e3], h3⟩
theorem rpm_b (s : ByteArray) (f : Pm) (h : ∀ x ∈ pmI f, itOk x) : Back s (rpmF s) (pmI f) f := fun a rest h0 => by
 obtain ⟨a2, e2, h2⟩ := stepF h0; obtain ⟨a3, e3, h3⟩ := stepN h2 (okN (h (iN f.typ) (by simp [pmI]))); exact ⟨a3, by simp only [rpmF, bnd, mp, e2, e3], h3⟩
theorem rty_b (s : ByteArray) (t : Ty) (h : ∀ x ∈ tyI t, itOk x) (hf : 0 <= t.form /\ t.form < 256) (h64 : t.fields.length <= 64 /\ t.params.length <= 64) : Back s (rtyF s) (tyI t) t := fun a rest h0 => by
 have m1 : ∀ f ∈ t.fields, ∀ x ∈ fdI f, itOk x := fun f hf x hx => h x (by
  rw [tyI]; exact List.mem_append_right _ (List.mem_append_left _ (List.mem_flatMap.2 ⟨f, hf, hx⟩)))
 have m2 : ∀ f ∈ t.params, ∀ x ∈ pmI f, itOk x := fun f hf x hx => h x (by
  rw [tyI]; exact List.mem_append_right _ (List.mem_append_right _ (List.mem_append_right _ (List.mem_flatMap.2 ⟨f, hf, hx⟩))))
 rw [tyI] at h0; simp only [List.cons_append, List.nil_append] at h0; obtain ⟨a0, e0, h0⟩ := stepB h0 hf; obtain ⟨a1, e1, h1⟩ := stepT h0 (okT (h (iT t.mod) (by simp [tyI]))); obtain ⟨a2, e2, h2⟩ := stepT h1 (okT (h (iT t.name) (by simp [tyI]))); obtain ⟨a3, e3, h3⟩ := stepN h2 (okN (h (iN t.len) (by simp [tyI]))); obtain ⟨a4, e4, h4⟩ := stepN h3 (okN (h (iN t.elem) (by simp [tyI]))); obtain ⟨a5, e5, h5⟩ := stepN h4 (okN (h (iN t.base) (by simp [tyI]))); obtain ⟨a6, e6, h6⟩ := stepN h5 (okN (h (iN t.result) (by simp [tyI]))); obtain ⟨a7, e7, h7⟩ := stepN h6 (okN (h (iN t.desc) (by simp [tyI]))); obtain ⟨a8, e8, h8⟩ := rl_b (m := 64) (by omega) (fun f hf => rfd_b s f (m1 f hf)) (okN (h (iN t.fields.length) (by simp [tyI]))) h7; rw [show iN t.params.length :: List.flatMap pmI t.params = iN t.params.length :: (List.flatMap pmI t.params ++ []) by rw [List.append_nil]] at h8; obtain ⟨a9, e9, h9⟩ := rl_b (m := 64) (by omega) (fun f hf => rpm_b s f (m2 f hf)) (okN (h (iN t.params.length) (by simp [tyI]))) h8; exact ⟨a9, by simp only [rtyF, bnd, mp, e0, e1, e2, e3, e4, e5, e6, e7, e8, e9], h9⟩
theorem face_64b {f : Fc} (hF : FaceP f) : ∀ e ∈ f.types, e.fields.length <= 64 /\ e.params.length <= 64 := fun e he => by
 obtain ⟨i, hi, rfl⟩ := List.mem_iff_getElem.1 he; have e1 : tyAt f.types (i : Int) = f.types[i] := by rw [tyAt, Int.toNat_natCast, gD, gE hi]; rfl
 rw [<- e1]; rcases hF.ty.at_ (a := (i : Int)) (by omega) (by omega) with ⟨h7, h⟩ | ⟨_, h⟩
 ·rw [h]; simp [bt]
 ·obtain ⟨h1, h2, h3, h4, h5, h6, h7, h8, h9⟩ := h
  generalize tyAt f.types (i : Int) = x at *
  rw [h8, h9]; rcases h1 with h | h | h | h | h
  ·simp [want, h.1]
  ·simp [want, h.1]
  ·simp [want, h.1]; exact h.2.2.1
  ·simp [want, h.1]
  ·simp [want, h.1]; exact h.2.1
theorem rfc_b (s : ByteArray) {f : Fc} (hF : FaceP f) (hk : KeyP f) (h : ∀ x ∈ encI f, itOk x) {rest : List UInt8} (h0 : s.data.toList = itsB (encI f) ++ rest) : ∃ a b, textF s ⟨0, false⟩ = (headB, ⟨a, false⟩) /\ rfcF s ⟨a, false⟩ = (f, ⟨b, false⟩) /\ s.data.toList.drop b = rest := by
 have m1 : ∀ u ∈ f.uses, ∀ x ∈ usI u, itOk x := fun u hu x hx => h x (by
  rw [encI]; exact List.mem_append_right _ (List.mem_append_left _ (List.mem_flatMap.2 ⟨u, hu, hx⟩)))
 have m2 : ∀ u ∈ f.types.drop 7, ∀ x ∈ tyI u, itOk x := fun u hu x hx => h x (by
  rw [encI]; exact List.mem_append_right _ (List.mem_append_right _ (List.mem_append_right _ (List.mem_append_left _ (List.mem_flatMap.2 ⟨u, hu, hx⟩)))))
 have m3 : ∀ u ∈ f.objs, ∀ x ∈ obI u, itOk x := fun u hu x hx => h x (by
  rw [encI]; exact List.mem_append_right _ (List.mem_append_right _ (List.mem_append_right _ (List.mem_append_right _ (List.mem_append_right _ (List.mem_flatMap.2 ⟨u, hu, hx⟩))))))
 have hus := hF.us; have hos := hF.os; have hty := hF.ty.len; have h0 : s.data.toList.drop 0 = itsB (encI f) ++ rest := h0; rw [encI] at h0; simp only [List.cons_append, List.nil_append] at h0; obtain ⟨a0, e0, h0⟩ := stepT h0 tx_spsy; obtain ⟨a1, e1, h1⟩ := stepT h0 (okT (h (iT f.name) (by simp [encI]))); obtain ⟨a2, e2, h2⟩ := stepW h1 hk.1; obtain ⟨a3, e3, h3⟩ := rl_b (m := 16) (by omega) (fun u hu => us_b s u (m1 u hu) (hk.2 u hu)) (okN (h (iN f.uses.length) (by simp [encI]))) h2; obtain ⟨a4, e4, h4⟩ := rl_b (m := 249) (by rw [List.length_drop]; omega) (fun u hu => rty_b s u (m2 u hu) (face_form hF u hu) (face_64b hF u (List.mem_of_mem_drop hu))) (okN (h (iN (f.types.drop 7).length) (by simp [encI]))) h3; rw [show iN f.objs.length :: List.flatMap obI f.objs = iN f.objs.length :: (List.flatMap obI f.objs ++ []) by rw [List.append_nil]] at h4; obtain ⟨a5, e5, h5⟩ := rl_b (m := 64) (by omega) (fun u hu => ob_b s u (m3 u hu) (ob_form (hF.ob u hu)).1 (ob_form (hF.ob u hu)).2.1 (ob_form (hF.ob u hu)).2.2) (okN (h (iN f.objs.length) (by simp [encI]))) h4; refine ⟨a0, a5, e0, ?_, h5⟩; simp only [rfcF, bnd, mp, e1, e2, e3, e4, e5, <- face_types hF]
def RefP (s : ByteArray) : Prop := (hdF s).1 = headB /\ endF s (rfcF s (hdF s).2).2 = true /\ FaceP (rfcF s (hdF s).2).1
open Classical in
noncomputable def refV (s : ByteArray) : List AV := if RefP s then [(rfcF s (hdF s).2).1.av, iv 0] else [zF.av, iv 170]
theorem ref_key (s : ByteArray) : FcR s (rfcF s (hdF s).2).1 /\ (rfcF s (hdF s).2).2.a <= s.size := by
 have l0 := (text_r s).le ⟨0, false⟩ (Nat.zero_le _); exact ⟨(rfc_r s).ok _ l0, (rfc_r s).le _ l0⟩
theorem refV_eq {s : ByteArray} (hs : s.size <= 131072) : refV s = decV s := by
 by_cases hP : RefP s
 ·rw [refV, if_pos hP]
  obtain ⟨h1, h2, h3⟩ := hP; have hb : (rfcF s (hdF s).2).2.bad = false /\ (rfcF s (hdF s).2).2.a = s.size := by
   rw [endF] at h2
   simpa using h2
  obtain ⟨c1, c2⟩ := ref_can h1 hb.1; have hky := (ref_key s).1.ky
  generalize (rfcF s (hdF s).2).1 = f at *
  rw [hb.2, List.drop_eq_nil_of_le (by rw [len_data]; exact Nat.le_refl _), List.append_nil] at c1; have he : encV f = [sv s, iv 0] := by
   rw [encV, if_pos h3, fileF, if_neg (fun ⟨x, hx, hn⟩ => hn (c2 x hx)), if_neg (by rw [<- c1, len_data]; omega), <- c1]
  exact (decV_yes hky he).symm
 ·rw [refV, if_neg hP]
  rcases decV_cases s with ⟨f, hg, e2, _⟩ | ⟨_, e⟩
  ·refine absurd ?_ hP
   obtain ⟨h1, h2, h3⟩ := encV_zero e2; obtain ⟨a, b, e1, e2, e3⟩ := rfc_b s h1 hg.ky h2 (rest := []) (by rw [List.append_nil]; exact h3); have eh : hdF s = (headB, ⟨a, false⟩) := e1; have hk := (ref_key s).2; rw [RefP, eh]; simp only [e2]; rw [eh] at hk; simp only [e2] at hk; refine ⟨trivial, ?_, h1⟩; have hb2 : s.size <= b := by
    have := congrArg List.length e3; rw [List.length_drop, len_data, List.length_nil] at this; omega
   rw [endF]
   simp; omega
  ·exact e.symm
end Go.Proofs.YthifjndenhjobaaGreat.Rid
