/- Plain law: good tables. -/
import Derived.Test.YthifjndenhjobaaGreatVT10
import Derived.Test.YthifjndenhjobaaGreatVT8
set_option linter.unusedSectionVars false
set_option linter.unusedSimpArgs false
set_option linter.unusedVariables false
namespace Go.Proofs.YthifjndenhjobaaGreat
structure FrmP (t : List Ty) : Prop where
 len : 7 <= t.length /\ t.length <= 256
 bas : ∀ i, i < 7 -> t.getD i default = bt i
 frm : ∀ i, 7 <= i -> i < t.length -> FormedP t (t.getD i default)
def Twice (x y : Ty) : Prop := x.form = 9 /\ y.form = 9 /\ 0 <= x.desc /\ x.mod = y.mod /\ x.desc = y.desc
structure GoodP (t : List Ty) : Prop extends FrmP t where
 acc : ∀ a : Int, 0 <= a -> a < t.length -> Acc (KdC t) a
 uni : ∀ i j, i < j -> j < t.length -> ¬ Twice (t.getD i default) (t.getD j default)
 chn : ∀ i, i < t.length -> ¬ Odd1 t i
theorem tyAt_lt {t : List Ty} (h : FrmP t) {a : Int} (h0 : 0 <= a) (h7 : a < 7) : tyAt t a = bt a := by
 have := h.bas a.toNat (by omega); rw [tyAt, this, show ((a.toNat : Nat) : Int) = a by omega]
theorem FrmP.at_ {t : List Ty} (h : FrmP t) {a : Int} (h0 : 0 <= a) (h1 : a < t.length) : (a < 7 /\ tyAt t a = bt a) \/ (7 <= a /\ FormedP t (tyAt t a)) := by
 rcases Int.lt_or_le a 7 with h7 | h7
 ·exact .inl ⟨h7, tyAt_lt h h0 h7⟩
 ·exact .inr ⟨h7, h.frm a.toNat (by omega) (by omega)⟩
theorem formA_ne {t : List Ty} {n : Int} (h : formA t n ≠ -1) : 0 <= n /\ n < t.length /\ formA t n = (tyAt t n).form := by
 rw [formA] at h ⊢
 split at h
 ·rename_i hh; exact ⟨hh.1, hh.2, by rw [if_pos hh]⟩
 ·exact absurd rfl h
theorem part_in {t : List Ty} {n : Int} (h : partP (formA t n)) : 0 <= n /\ n < t.length := by
 have := formA_ne (t := t) (n := n) (by rcases h with h | h | h <;> omega); exact ⟨this.1, this.2.1⟩
theorem form_in {t : List Ty} {n k : Int} (h : formA t n = k) (hk : k ≠ -1) : 0 <= n /\ n < t.length /\ (tyAt t n).form = k := by
 have := formA_ne (t := t) (n := n) (by omega); exact ⟨this.1, this.2.1, by omega⟩
theorem FrmP.f7 {t : List Ty} {x : Ty} (h : FormedP t x) (f : x.form = 7) : 1 <= x.len /\ x.len <= 4096 /\ partP (formA t x.elem) := by
 have := h.1; simp [okP, f] at this; exact this
theorem FrmP.f8 {t : List Ty} {x : Ty} (h : FormedP t x) (f : x.form = 8) : partP (formA t x.elem) \/ formA t x.elem = 8 := by
 have := h.1; simp [okP, f] at this; exact this
theorem FrmP.f9 {t : List Ty} {x : Ty} (h : FormedP t x) (f : x.form = 9) : conds9 t x /\ ∀ f ∈ x.fields, Nm f.name /\ partP (formA t f.typ) := (ok9 f).1 h.1
theorem FrmP.f10 {t : List Ty} {x : Ty} (h : FormedP t x) (f : x.form = 10) : formA t x.elem = 9 := by
 have := h.1; simp [okP, f] at this; exact this
theorem FrmP.f11 {t : List Ty} {x : Ty} (h : FormedP t x) (f : x.form = 11) : conds11 t x /\ ∀ p ∈ x.params, partP (formA t p.typ) \/ formA t p.typ = 8 := (ok11 f).1 h.1
theorem FrmP.form {t : List Ty} {x : Ty} (h : FormedP t x) : x.form = 7 \/ x.form = 8 \/ x.form = 9 \/ x.form = 10 \/ x.form = 11 := by
 rcases h.1 with h | h | h | h | h
 ·exact .inl h.1
 ·exact .inr (.inl h.1)
 ·exact .inr (.inr (.inl h.1))
 ·exact .inr (.inr (.inr (.inl h.1)))
 ·exact .inr (.inr (.inr (.inr h.1)))
theorem FrmP.kid {t : List Ty} (h : FrmP t) {a : Int} (h0 : 0 <= a) (h1 : a < t.length) {y : Int} (hy : y ∈ kidsC t a) : 0 <= y /\ y < t.length := by
 have hl := h.len; rcases h.at_ h0 h1 with ⟨h7, e⟩ | ⟨h7, f⟩
 ·rw [kids_no (by rw [e]; simp [bt]; omega) (by rw [e]; simp [bt]; omega) (by rw [e]; simp [bt]; omega)] at hy
  simp at hy
 ·by_cases f7 : (tyAt t a).form = 7
  ·rw [kids_arr (.inl f7)] at hy
   rw [List.mem_singleton.1 hy]; exact part_in (FrmP.f7 f f7).2.2
  by_cases f8 : (tyAt t a).form = 8
  ·rw [kids_arr (.inr f8)] at hy
   rw [List.mem_singleton.1 hy]; rcases FrmP.f8 f f8 with h | h
   ·exact part_in h
   ·have := form_in h (by omega); exact ⟨this.1, this.2.1⟩
  by_cases f9 : (tyAt t a).form = 9
  ·rw [kids_rec f9] at hy
   obtain ⟨⟨c1, _⟩, c2⟩ := FrmP.f9 f f9; rcases List.mem_cons.1 hy with rfl | hy
   ·rcases c1 with c1 | c1
    ·rw [c1]; omega
    ·have := form_in c1 (by omega); exact ⟨this.1, this.2.1⟩
   ·obtain ⟨p, hp, rfl⟩ := List.mem_map.1 hy
    exact part_in (c2 p hp).2
  ·rw [kids_no f7 f8 f9] at hy; simp at hy
theorem FrmP.base {t : List Ty} (h : FrmP t) {a : Int} (h0 : 0 <= a) (h1 : a < t.length) (f9 : (tyAt t a).form = 9) : (tyAt t a).base = 0 \/ (0 <= (tyAt t a).base /\ (tyAt t a).base < t.length /\ (tyAt t (tyAt t a).base).form = 9) := by
 rcases h.at_ h0 h1 with ⟨h7, e⟩ | ⟨h7, f⟩
 ·rw [e] at f9; simp only [bt] at f9; omega
 ·rcases (FrmP.f9 f f9).1.1 with c | c
  ·exact .inl c
  ·exact .inr (form_in c (by omega))
def FNames (t : List Ty) : Prop := ∀ x ∈ t, ∀ f ∈ x.fields, f.name.size <= 140737488355328
theorem FrmP.tb {t : List Ty} (h : FrmP t) (hs : Small t) (hn : FNames t) : TBase t :=
 ⟨h.len.2, fun x hx => ⟨by have := (hs.2 x hx).1; omega, hn x hx⟩, fun a h0 h1 f9 => h.base h0 h1 f9⟩
theorem FrmP.tk {t : List Ty} (h : FrmP t) (hs : Small t) : TKids t := ⟨h.len.2, fun a h0 h1 y hy => h.kid h0 h1 hy, fun x hx => (hs.2 x hx).1⟩
section
variable {α : Type} (f : α -> Value)
def mkK : Nat -> List α -> List (Value × AV × Nat)
 | _, [] => []
 | n, s :: l => (f s, iv 1, n) :: mkK (n + 1) l
variable {f : α -> Value}
variable [DecidableEq α] (hf : ∀ a b, keq (f a) (f b) = decide (a = b))
include hf
theorem mkK_no {s : α} : ∀ {n : Nat} {l : List α}, s ∉ l -> mapGet (mkK f n l) (f s) = none
 | n, [], _ => rfl
 | n, x :: l, h => by
  simp only [mkK, mapGet, hf, decide_eq_true_eq]; rw [if_neg (fun e => h (by rw [e]; exact List.mem_cons_self))]; exact mkK_no fun hm => h (List.mem_cons_of_mem _ hm)
theorem mkK_yes {s : α} (y : AV) : ∀ {n : Nat} {l : List α}, s ∈ l -> ∃ c es2, mapGet (mkK f n l) (f s) = some (iv 1, c) /\ n <= c /\ mapSt (mkK f n l) c y = some es2 /\ mapGet es2 (f s) = some (y, c)
 | n, x :: l, h => by
  by_cases e : x = s
  ·subst e
   exact ⟨n, (f x, y, n) :: mkK f (n + 1) l, by simp [mkK, mapGet, hf], Nat.le_refl _, by simp [mkK, mapSt], by simp [mapGet, hf]⟩
  ·have hm : s ∈ l := (List.mem_cons.1 h).resolve_left (Ne.symm e)
   obtain ⟨c, es2, h1, h2, h3, h4⟩ := mkK_yes (n := n + 1) y hm; refine ⟨c, (f x, iv 1, n) :: es2, by simp [mkK, mapGet, hf, e, h1], by omega, ?_, by simp [mapGet, hf, e, h4]⟩; simp only [mkK, mapSt]; rw [if_neg (by simp; omega), h3]
theorem mkK_new {s : α} (l : List α) (y : AV) : ∀ (n c : Nat), c = n + l.length -> mapSt (mkK f n l ++ [(f s, y, c)]) c (iv 1) = some (mkK f n (l ++ [s])) := by
 induction l with
 | nil => intro n c h; simp at h; subst h; simp [mkK, mapSt]
 | cons x l ih =>
  intro n c h
  simp only [mkK, List.cons_append, mapSt]; rw [if_neg (by simp at h ⊢; omega), ih (n + 1) c (by simp at h; omega)]
end
def rkey (p : ByteArray × Int) : Value := .agg #[.string p.1, .int .i64 p.2]
theorem rkey_eq (a b : ByteArray × Int) : keq (rkey a) (rkey b) = decide (a = b) := by
 obtain ⟨a1, a2⟩ := a; obtain ⟨b1, b2⟩ := b; simp only [rkey, keq, keqL, keq1, Bool.and_true]
 by_cases h1 : a1 = b1 <;> by_cases h2 : a2 = b2 <;> simp [h1, h2]
theorem rkey_of (s : ByteArray) (n : Int) : keyOf (.agg [sv s, iv n]) = some (rkey (s, n)) := rfl
abbrev ktR : KT := ⟨true, [.s, .i .i64]⟩
theorem rkey_fits {s : ByteArray} {n : Int} (h : s.size <= 140737488355328) (hn : -1 <= n /\ n <= 64) : keyFits ktR (rkey (s, n)) = true := by
 simp only [keyFits, rkey, fitL, kcFit]
 simp
 exact ⟨Nat.le_trans h (show 140737488355328 <= maxLen by decide), Int.le_trans (show IntKind.i64.min <= -1 by decide) hn.1, by omega⟩
theorem mkK_refs {α : Type} (f : α -> Value) (kt : KT) (ck : Nat) : ∀ (n : Nat) (l : List α), (ABlk.map kt ck (mkK f n l)).refs = []
 | n, [] => rfl
 | n, s :: l => by
  have := mkK_refs f kt ck (n + 1) l; simp [mkK, ABlk.refs, refs] at this ⊢; exact this
def RecIn (t : List Ty) (c : Int) : Prop := 0 <= c /\ c < t.length /\ (tyAt t c).form = 9
theorem GoodP.at_ {t : List Ty} (h : GoodP t) {a : Int} (h0 : 0 <= a) (h1 : a < t.length) : (a < 7 /\ tyAt t a = bt a) \/ (7 <= a /\ FormedP t (tyAt t a)) := h.toFrmP.at_ h0 h1
theorem GoodP.rec_ {t : List Ty} (h : GoodP t) {a : Int} (ha : RecIn t a) : 7 <= a /\ FormedP t (tyAt t a) := by
 rcases h.at_ ha.1 ha.2.1 with ⟨h7, e⟩ | h7
 ·have := ha.2.2
  rw [e] at this; simp [bt] at this; omega
 ·exact h7
theorem GoodP.base {t : List Ty} (h : GoodP t) {a : Int} (ha : RecIn t a) : (tyAt t a).base = 0 \/ RecIn t (tyAt t a).base := by
 obtain ⟨_, hf⟩ := h.rec_ ha; rcases (FrmP.f9 hf ha.2.2).1.1 with h1 | h1
 ·exact .inl h1
 ·exact .inr (form_in h1 (by decide))
theorem GoodP.chain_rec {t : List Ty} (h : GoodP t) : ∀ {n : Nat} {a : Int}, RecIn t a -> ∀ c ∈ chain t n a, RecIn t c
 | 0, a, ha, c, hc => by simp [chain] at hc; subst hc; exact ha
 | n + 1, a, ha, c, hc => by
  simp only [chain, List.mem_cons] at hc; rcases hc with rfl | hc
  ·exact ha
  ·rcases h.base ha with h1 | h1
   ·rw [if_pos h1] at hc; simp at hc
   ·split at hc
    ·simp at hc
    ·exact chain_rec h h1 c hc
theorem GoodP.uni' {t : List Ty} (h : GoodP t) {a b : Int} (ha : RecIn t a) (hb : RecIn t b) (hm : (tyAt t a).mod = (tyAt t b).mod) (hd : (tyAt t a).desc = (tyAt t b).desc) (h1 : (tyAt t a).desc ≠ -1) : a = b := by
 obtain ⟨a7, fa⟩ := h.rec_ ha; have ga := (FrmP.f9 fa ha.2.2).1; have hge : 0 <= (tyAt t a).desc := by have := ga.2.2.1; omega
 rcases Int.lt_trichotomy a b with hl | rfl | hl
 ·exact absurd ⟨ha.2.2, hb.2.2, hge, hm, hd⟩ (h.uni a.toNat b.toNat (by have := ha.1; omega) (by have := hb.2.1; omega))
 ·rfl
 ·have e : 0 <= (tyAt t b).desc := by omega
  exact absurd ⟨hb.2.2, ha.2.2, e, hm.symm, hd.symm⟩ (h.uni b.toNat a.toNat (by have := hb.1; omega) (by have := ha.2.1; omega))
end Go.Proofs.YthifjndenhjobaaGreat
