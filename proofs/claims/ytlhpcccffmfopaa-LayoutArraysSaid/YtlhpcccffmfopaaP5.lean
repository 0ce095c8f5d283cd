/- Plain law: the bases of a record. -/
import Derived.Test.YtlhpcccffmfopaaP3
namespace Go.Proofs.Ytlhpcccffmfopaa
set_option linter.unusedSectionVars false
set_option linter.unusedSimpArgs false
set_option linter.unusedVariables false

def RecIn (t : List Ty) (c : Int) : Prop := 0 ≤ c ∧ c < t.length ∧ (tyAt t c).form = 9
theorem chain_ne (t : List Ty) : ∀ n a, ∃ r, chain t n a = a :: r
  | 0, a => ⟨[], rfl⟩
  | n + 1, a => ⟨_, rfl⟩
theorem chain_step {t : List Ty} : ∀ {n : Nat} {a : Int}, (chain t n a).length ≤ n → ∀ i, i < (chain t n a).length → (tyAt t ((chain t n a).getD i 0)).base = (chain t n a).getD (i + 1) 0
  | 0, a, h, i, _ => by simp [chain] at h
  | n + 1, a, h, i, hi => by
    by_cases hb : (tyAt t a).base = 0
    · simp only [chain, if_pos hb, List.length_cons, List.length_nil] at hi ⊢
      have : i = 0 := by omega
      subst this
      simpa using hb
    · simp only [chain, if_neg hb, List.length_cons] at h hi ⊢
      cases i with
      | zero =>
        obtain ⟨r, hr⟩ := chain_ne t n (tyAt t a).base
        rw [hr]; rfl
      | succ i => exact chain_step (n := n) (by omega) i (by omega)
theorem GoodP.at_ {t : List Ty} (h : GoodP t) {a : Int} (h0 : 0 ≤ a) (h1 : a < t.length) : (a < 7 ∧ tyAt t a = bt a) ∨ (7 ≤ a ∧ FormedP t (tyAt t a)) := h.toFrmP.at_ h0 h1
theorem GoodP.rec_ {t : List Ty} (h : GoodP t) {a : Int} (ha : RecIn t a) : 7 ≤ a ∧ FormedP t (tyAt t a) := by
  rcases h.at_ ha.1 ha.2.1 with ⟨h7, e⟩ | h7
  · have := ha.2.2
    rw [e] at this
    simp [bt] at this
    omega
  · exact h7
theorem GoodP.base {t : List Ty} (h : GoodP t) {a : Int} (ha : RecIn t a) : (tyAt t a).base = 0 ∨ RecIn t (tyAt t a).base := by
  obtain ⟨_, hf⟩ := h.rec_ ha
  rcases (FrmP.f9 hf ha.2.2).1.1 with h1 | h1
  · exact .inl h1
  · exact .inr (form_in h1 (by decide))
theorem GoodP.chain_rec {t : List Ty} (h : GoodP t) : ∀ {n : Nat} {a : Int}, RecIn t a → ∀ c ∈ chain t n a, RecIn t c
  | 0, a, ha, c, hc => by simp [chain] at hc; subst hc; exact ha
  | n + 1, a, ha, c, hc => by
    simp only [chain, List.mem_cons] at hc
    rcases hc with rfl | hc
    · exact ha
    · rcases h.base ha with h1 | h1
      · rw [if_pos h1] at hc; simp at hc
      · split at hc
        · simp at hc
        · exact chain_rec h h1 c hc
theorem GoodP.uni' {t : List Ty} (h : GoodP t) {a b : Int} (ha : RecIn t a) (hb : RecIn t b) (hm : (tyAt t a).mod = (tyAt t b).mod) (hd : (tyAt t a).desc = (tyAt t b).desc) (h1 : (tyAt t a).desc ≠ -1) : a = b := by
  obtain ⟨a7, fa⟩ := h.rec_ ha
  have ga := (FrmP.f9 fa ha.2.2).1
  have hge : 0 ≤ (tyAt t a).desc := by have := ga.2.2.1; omega
  rcases Int.lt_trichotomy a b with hl | rfl | hl
  · exact absurd ⟨ha.2.2, hb.2.2, hge, hm, hd⟩ (h.uni a.toNat b.toNat (by have := ha.1; omega) (by have := hb.2.1; omega))
  · rfl
  · have e : 0 ≤ (tyAt t b).desc := by omega
    exact absurd ⟨hb.2.2, ha.2.2, e, hm.symm, hd.symm⟩ (h.uni b.toNat a.toNat (by have := hb.1; omega) (by have := ha.2.1; omega))
theorem GoodP.chain5 {t : List Ty} (h : GoodP t) {a : Int} (ha : RecIn t a) : (chain t 5 a).length ≤ 5 := by
  have := h.chn a.toNat (by have := ha.2.1; have := ha.1; omega)
  rw [Odd1] at this
  have e : (a.toNat : Int) = a := by have := ha.1; omega
  have f : t.getD a.toNat default = tyAt t a := rfl
  by_cases hc : ChainP t a
  · exact hc.1
  · exact absurd (by first | exact ⟨ha.2.2, by rw [e]; exact hc⟩ | simp_all [RecIn]) this
end Go.Proofs.Ytlhpcccffmfopaa
