/- Plain law: the document's table is the program's. -/
import Derived.Test.YtlhpcccffmfopaaT13
import Derived.Test.YtlhpcccffmfopaaT11
namespace Go.Proofs.Ytlhpcccffmfopaa
set_option linter.unusedSectionVars false
set_option linter.unusedSimpArgs false
set_option linter.unusedVariables false

/-- What the reference asks. -/
structure GoodR (t : List Ty) : Prop where
  len : 7 ≤ t.length ∧ t.length ≤ 256
  bas : ∀ i, i < 7 → t.getD i default = bt i
  one : ∀ i : Nat, 7 ≤ i → i < t.length → OneP t i
  acc : ∀ i : Nat, 7 ≤ i → i < t.length → Acc (KdR t) i
  uni : ∀ i k : Nat, 7 ≤ k → k < i → i < t.length → ¬ ((t.getD i default).form = 9 ∧ (t.getD k default).form = 9 ∧ (t.getD i default).mod = (t.getD k default).mod ∧ (t.getD i default).desc = (t.getD k default).desc ∧ (t.getD i default).desc ≠ -1)

/-- All forms are forms. -/
def Forms (t : List Ty) : Prop := ∀ a : Int, 0 ≤ a → a < t.length → 0 ≤ (tyAt t a).form ∧ (tyAt t a).form ≤ 11
theorem formA_p {t : List Ty} {n : Int} (h : placeP t n) : formA t n = (tyAt t n).form := if_pos h
theorem formA_n {t : List Ty} {n : Int} (h : ¬ placeP t n) : formA t n = -1 := if_neg h
theorem partR {t : List Ty} (h : Forms t) (n : Int) : partP (formA t n) ↔ holdsP t n := by
  by_cases hp : placeP t n
  · rw [formA_p hp]
    have := h n hp.1 hp.2
    simp only [partP, holdsP, hp, true_and]
    omega
  · rw [formA_n hp]
    simp [partP, holdsP, hp]
theorem openR {t : List Ty} (n : Int) : formA t n = 8 ↔ hopenP t n := by
  by_cases hp : placeP t n
  · rw [formA_p hp]; simp [hopenP, hp]
  · rw [formA_n hp]; simp [hopenP, hp]
theorem recR {t : List Ty} (n : Int) : formA t n = 9 ↔ placeP t n ∧ (tyAt t n).form = 9 := by
  by_cases hp : placeP t n
  · rw [formA_p hp]; simp [hp]
  · rw [formA_n hp]; simp [hp]
theorem plainR {t : List Ty} (h : Forms t) (n : Int) : plainP (formA t n) ↔ holdsP t n ∧ (tyAt t n).form ≠ 7 ∧ (tyAt t n).form ≠ 9 := by
  by_cases hp : placeP t n
  · rw [formA_p hp]
    have := h n hp.1 hp.2
    simp only [plainP, holdsP, hp, true_and]
    omega
  · rw [formA_n hp]
    simp [plainP, holdsP, hp]
theorem FrmP.forms {t : List Ty} (h : FrmP t) : Forms t := fun a h0 h1 => by
  rcases h.at_ h0 h1 with ⟨h7, e⟩ | ⟨h7, f⟩
  · rw [e]; simp only [bt]; omega
  · have := FrmP.form f; omega
theorem GoodR.forms {t : List Ty} (h : GoodR t) : Forms t := fun a h0 h1 => by
  rcases Int.lt_or_le a 7 with h7 | h7
  · have := h.bas a.toNat (by omega)
    rw [tyAt, this]; simp only [bt]; omega
  · have := (h.one a.toNat (by omega) (by omega)).2.2.2
    rw [show ((a.toNat : Nat) : Int) = a by omega] at this
    rcases this with h | h | h | h | h <;> omega
/-- One type by itself: all but a record's fields. -/
theorem named_iff {x : Ty} (h9 : x.form = 9 ∨ x.form ≠ 9) : namedP x ↔ ((x.form ≠ 9 → (x.mod = se ↔ x.name = se)) ∧ (x.form = 9 → x.mod ≠ se)) ∧ ok2 x := by
  unfold namedP ok2
  by_cases hm : x.mod = se <;> by_cases hn : x.name = se <;> by_cases hf : x.form = 9 <;> simp [hm, hn, hf, not_Nm_se]
theorem like_iff {x : Ty} : likeW x ↔ (x.form ≠ 9 → x.desc = 0) ∧ ok3 x := by
  have e1 : (x.form = 7 → (want x).len = x.len) ∧ (x.form ≠ 7 → (want x).len = 0) := ⟨fun h => by simp [want, h], fun h => by simp [want, h]⟩
  have e2 : ((x.form = 7 ∨ x.form = 8 ∨ x.form = 10) → (want x).elem = x.elem) ∧ (¬ (x.form = 7 ∨ x.form = 8 ∨ x.form = 10) → (want x).elem = 0) := ⟨fun h => by simp only [want]; rw [if_pos h], fun h => by simp only [want]; rw [if_neg h]⟩
  have e3 : (x.form = 9 → (want x).base = x.base ∧ (want x).fields.length = x.fields.length ∧ (want x).desc = x.desc) ∧ (x.form ≠ 9 → (want x).base = 0 ∧ (want x).fields.length = 0 ∧ (want x).desc = 0) := ⟨fun h => by simp [want, h], fun h => by simp [want, h]⟩
  have e4 : (x.form = 11 → (want x).result = x.result ∧ (want x).params.length = x.params.length) ∧ (x.form ≠ 11 → (want x).result = 0 ∧ (want x).params.length = 0) := ⟨fun h => by simp [want, h], fun h => by simp [want, h]⟩
  unfold likeW ok3
  omega
/-- But for a record, one type by itself. -/
theorem one_iff {t : List Ty} (hF : Forms t) {a : Int} (h9 : (tyAt t a).form ≠ 9) : OneP t a ↔ FormedP t (tyAt t a) := by
  generalize hx : tyAt t a = x at *
  have hsw : swP t a x ↔ okP t x := by
    unfold swP okP
    rw [partR hF, recR, openR, recR]
    simp only [h9, false_and, false_or, or_false, plainR hF, partR hF, openR]
    refine ⟨fun h => ?_, fun h => ?_⟩
    · rcases h with h | h | h | ⟨h, h1, h2, h3⟩
      · exact .inl h
      · exact .inr (.inl h)
      · exact .inr (.inr (.inl h))
      · exact .inr (.inr (.inr ⟨h, h2, h3, h1⟩))
    · rcases h with h | h | h | ⟨h, h1, h2, h3⟩
      · exact .inl h
      · exact .inr (.inl h)
      · exact .inr (.inr (.inl h))
      · exact .inr (.inr (.inr ⟨h, h3, h1, h2⟩))
  unfold OneP FormedP
  rw [hx, hsw, named_iff (.inr h9), like_iff]
  unfold ok1
  constructor
  · rintro ⟨⟨h1, h2⟩, h3, h4, h5⟩
    exact ⟨h5, ⟨⟨fun h => (h1 h).2, fun h => absurd h h9⟩, h3⟩, fun h => (h1 h).1, h4⟩
  · rintro ⟨h5, ⟨⟨h1, _⟩, h3⟩, h2, h4⟩
    exact ⟨⟨fun h => ⟨h2 h, h1 h⟩, fun h => absurd h h9⟩, h3, h4, h5⟩
/-- Of a record. -/
theorem one_rec {t : List Ty} {a : Int} (h9 : (tyAt t a).form = 9) : OneP t a ↔ (namedP (tyAt t a) ∧ likeW (tyAt t a) ∧ -1 ≤ (tyAt t a).desc ∧ (tyAt t a).desc ≤ 63) ∧ RecP t a := by
  generalize hx : tyAt t a = x at *
  unfold OneP swP
  rw [hx, named_iff (.inl h9), like_iff]
  unfold ok1
  constructor
  · rintro ⟨⟨h1, h2⟩, h4, h5, h6⟩
    obtain ⟨h2, h3⟩ := h2 h9
    refine ⟨⟨⟨⟨fun h => absurd h9 h, fun _ => h2⟩, h4⟩, ⟨fun h => absurd h9 h, h5⟩, h3⟩, ?_⟩
    rcases h6 with h | h | h | h | h
    · omega
    · omega
    · omega
    · exact h.2
    · omega
  · rintro ⟨⟨⟨⟨h1, h2⟩, h4⟩, ⟨_, h5⟩, h3⟩, h6⟩
    exact ⟨⟨fun h => absurd h9 h, fun h => ⟨h2 h, h3⟩⟩, h4, h5, .inr (.inr (.inr (.inl ⟨h9, h6⟩)))⟩
theorem bas_len {t : List Ty} : ∀ {n : Nat} {a : Int} {l : List Int}, basR t n a = some l → l.length ≤ n ∧ chain t n a = a :: l
  | 0, a, l, h => by
    simp only [basR] at h
    split at h
    · cases h; simp [chain]
    · cases h
  | n + 1, a, l, h => by
    simp only [basR] at h
    split at h
    · rename_i hz; cases h; simp [chain, hz]
    · rename_i hz
      split at h
      · obtain ⟨r, hr, rfl⟩ := Option.map_eq_some_iff.1 h
        obtain ⟨h1, h2⟩ := bas_len hr
        simp only [chain, if_neg hz, h2, List.length_cons]
        exact ⟨by omega, trivial⟩
      · cases h
/-- In a table whose bases are records, a chain that is not too long is found. -/
theorem bas_some {t : List Ty} (hb : ∀ a : Int, placeP t a → (tyAt t a).form = 9 → (tyAt t a).base = 0 ∨ (placeP t (tyAt t a).base ∧ (tyAt t (tyAt t a).base).form = 9)) :
    ∀ {n : Nat} {a : Int}, placeP t a → (tyAt t a).form = 9 → (chain t n a).length ≤ n → ∃ l, basR t n a = some l
  | 0, a, _, _, h => by simp [chain] at h
  | n + 1, a, hp, h9, h => by
    simp only [basR, chain, List.length_cons] at h ⊢
    by_cases hz : (tyAt t a).base = 0
    · exact ⟨[], if_pos hz⟩
    · have := (hb a hp h9).resolve_left hz
      rw [if_neg hz] at h ⊢
      rw [if_pos this]
      obtain ⟨l, hl⟩ := bas_some hb (n := n) this.1 this.2 (by omega)
      exact ⟨_, by rw [hl]; rfl⟩

theorem bas_step {t : List Ty} {n : Nat} {a : Int} {l : List Int} (h : basR t (n + 1) a = some l) : (tyAt t a).base = 0 ∨ (placeP t (tyAt t a).base ∧ (tyAt t (tyAt t a).base).form = 9) := by
  simp only [basR] at h
  split at h
  · rename_i hz; exact .inl hz
  · split at h
    · rename_i hp; exact .inr hp
    · cases h
theorem bas_form {t : List Ty} : ∀ {n : Nat} {a : Int} {l : List Int}, basR t n a = some l → ∀ b ∈ l, (tyAt t b).form = 9
  | 0, a, l, h => by
    simp only [basR] at h
    split at h
    · cases h; simp
    · cases h
  | n + 1, a, l, h => by
    simp only [basR] at h
    split at h
    · cases h; simp
    · split at h
      · rename_i hp
        obtain ⟨r, hr, rfl⟩ := Option.map_eq_some_iff.1 h
        intro b hb
        rcases List.mem_cons.1 hb with rfl | hb
        · exact hp.2
        · exact bas_form hr b hb
      · cases h
theorem GoodR.good {t : List Ty} (h : GoodR t) : GoodP t := by
  have hf := h.forms
  have hl := h.len
  have hlo : ∀ a : Int, 0 ≤ a → a < 7 → tyAt t a = bt a := fun a h0 h7 => by
    have := h.bas a.toNat (by omega)
    rw [tyAt, this, show ((a.toNat : Nat) : Int) = a by omega]
  have hone : ∀ a : Int, 7 ≤ a → a < t.length → OneP t a := fun a h7 h1 => by
    have := h.one a.toNat (by omega) (by omega)
    rwa [show ((a.toNat : Nat) : Int) = a by omega] at this
  have hF : FrmP t := by
    refine ⟨hl, h.bas, fun i h7 hi => ?_⟩
    have ho := h.one i h7 hi
    have e : tyAt t (i : Int) = t.getD i default := rfl
    by_cases h9 : (tyAt t (i : Int)).form = 9
    · obtain ⟨⟨g1, g2, g3, g4⟩, l, g5, g6, g7, _⟩ := (one_rec h9).1 ho
      rw [← e]
      have g8 := g7 _ List.mem_cons_self
      refine ⟨(ok9 h9).2 ⟨⟨?_, g8.1, g3, by omega⟩, fun f hf' => ⟨(g8.2 f hf').1, (partR hf _).2 (g8.2 f hf').2⟩⟩, g1, g2⟩
      rcases bas_step (n := 4) g5 with hz | hp
      · exact .inl hz
      · exact .inr ((recR _).2 hp)
    · rw [← e]; exact (one_iff hf h9).1 ho
  refine ⟨hF, fun a h0 h1 => ?_, fun i j hij hj hT => ?_, fun i hi hO => ?_⟩
  · rcases Int.lt_or_le a 7 with h7 | h7
    · refine .intro a fun y hy => ?_
      have e := hlo a h0 h7
      simp only [KdC] at hy
      rw [kids_no (by rw [e]; simp only [bt]; omega) (by rw [e]; simp only [bt]; omega) (by rw [e]; simp only [bt]; omega)] at hy
      simp at hy
    · have := h.acc a.toNat (by omega) (by omega)
      rw [show ((a.toNat : Nat) : Int) = a by omega] at this
      exact (acc_CR (by rw [hlo 0 (by omega) (by omega)]; rfl)).2 this
  · obtain ⟨g1, g2, g3, g4, g5⟩ := hT
    have hi7 : 7 ≤ i := by
      rcases Nat.lt_or_ge i 7 with h7 | h7
      · rw [h.bas i h7] at g1; simp only [bt] at g1; omega
      · exact h7
    exact h.uni j i hi7 hij hj ⟨g2, g1, g4.symm, g5.symm, by omega⟩
  · obtain ⟨g1, g2⟩ := hO
    have hi7 : 7 ≤ i := by
      rcases Nat.lt_or_ge i 7 with h7 | h7
      · rw [h.bas i h7] at g1; simp only [bt] at g1; omega
      · exact h7
    obtain ⟨_, l, g5, g6, _, g8⟩ := (one_rec (t := t) (a := (i : Int)) g1).1 (h.one i hi7 hi)
    obtain ⟨_, hc⟩ := bas_len g5
    exact g2 ⟨by rw [hc]; simpa using g6, by rw [hc]; exact g8⟩
theorem GoodP.ref {t : List Ty} (h : GoodP t) : GoodR t := by
  have hF := h.toFrmP
  have hf := hF.forms
  have hl := hF.len
  refine ⟨hl, hF.bas, fun i h7 hi => ?_, fun i h7 hi => ?_, fun i k h7 hk hi hT => ?_⟩
  · have e : tyAt t (i : Int) = t.getD i default := rfl
    have hfm := hF.frm i h7 hi
    rw [← e] at hfm
    by_cases h9 : (tyAt t (i : Int)).form = 9
    · obtain ⟨g1, g2, g3⟩ := hfm
      have gg := FrmP.f9 ⟨g1, g2, g3⟩ h9
      refine (one_rec h9).2 ⟨⟨g2, g3, gg.1.2.2.1, by have := gg.1.2.2.2; omega⟩, ?_⟩
      have hc : ChainP t i := Classical.not_not.1 fun hc => h.chn i hi ⟨h9, hc⟩
      obtain ⟨l, hl'⟩ := bas_some (fun a hp h9 => by
        rcases hF.base hp.1 hp.2 h9 with hb | ⟨b1, b2, b3⟩
        · exact .inl hb
        · exact .inr ⟨⟨b1, b2⟩, b3⟩) (n := 5) (a := (i : Int)) ⟨by omega, by omega⟩ h9 hc.1
      obtain ⟨_, hce⟩ := bas_len hl'
      obtain ⟨hc1, hc2⟩ := hc
      rw [hce] at hc1 hc2
      refine ⟨l, hl', by simpa using hc1, fun b hb => ?_, hc2⟩
      have hb9 : placeP t b ∧ (tyAt t b).form = 9 := by
        rcases List.mem_cons.1 hb with rfl | hb
        · exact ⟨⟨by omega, by omega⟩, h9⟩
        · exact ⟨bas_place hl' b hb, bas_form hl' b hb⟩
      rcases hF.at_ hb9.1.1 hb9.1.2 with ⟨b7, e⟩ | ⟨b7, fb⟩
      · rw [e] at hb9; simp only [bt] at hb9; omega
      · obtain ⟨⟨_, c2, _⟩, c3⟩ := FrmP.f9 fb hb9.2
        exact ⟨c2, fun f hf' => ⟨(c3 f hf').1, (partR hf _).1 (c3 f hf').2⟩⟩
    · exact (one_iff hf h9).2 hfm
  · exact (acc_CR (by rw [tyAt_lt hF (by omega) (by omega)]; rfl)).1 (h.acc i (by omega) (by omega))
  · obtain ⟨g1, g2, g3, g4, g5⟩ := hT
    refine h.uni k i hk hi ⟨g2, g1, ?_, g3.symm, g4.symm⟩
    have := hF.frm i (by omega) hi
    have := (FrmP.f9 this g1).1.2.2.1
    omega
theorem good_iff {t : List Ty} : GoodR t ↔ GoodP t := ⟨GoodR.good, GoodP.ref⟩
end Go.Proofs.Ytlhpcccffmfopaa
