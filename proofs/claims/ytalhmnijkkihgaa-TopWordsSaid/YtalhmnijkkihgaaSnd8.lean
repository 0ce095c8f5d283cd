/-
  One's own library, part 6: regions, code, functions.
-/
import Derived.Test.YtalhmnijkkihgaaSndD
import Derived.Deep.LoopGhost
namespace Go.Proofs.Ytalhmnijkkihgaa
set_option linter.unusedVariables false
set_option linter.unusedSimpArgs false
set_option linter.unusedSectionVars false
open Go.RowKit

section
variable {P : Program} {o : Oper} {a : Act} {σ : Sg} {H : List ABlk} {w : World} {s : List AV} {hint : Nat → Option Md}

theorem elOf_spec {t e : TypeId} (h : elOf P t = some e) : P.underlying t = some (.slice e) := by
  unfold elOf at h
  simp only [Option.bind_eq_some_iff] at h
  obtain ⟨d, hd, h⟩ := h
  split at h
  · cases h; exact hd
  · cases h

theorem isStr_true {x : AV} (h : isStr x = true) : ∃ b, x = .d (.v (.string b)) := by
  unfold isStr at h
  split at h
  · exact ⟨_, rfl⟩
  · cases h
theorem isStr_false {x : AV} (h : isStr x = false) : ∀ b, x ≠ .d (.v (.string b)) := fun b e => by
  subst e; simp [isStr] at h
theorem isStrT_spec {t : TypeId} (h : isStrT P t = true) : P.underlying t = some .string := by
  unfold isStrT at h; split at h
  · assumption
  · cases h

/-- EVERY OPERATION THAT IS NO CALL. -/
theorem op_sound {k : K} {v : AV} {H' : List ABlk} (hc : compK P hint o = some k) (hs : SS σ s a) (h : HR σ H w) (hv : evK k s H = some (v, H')) : OpOk P o a σ H w v H' := by
  unfold compK at hc
  split at hc
  case h_1 x ho =>
    split at hc
    · cases hc
    · rename_i y hy
      split at hc
      · rename_i e _ he
        simp only [Option.map_eq_some_iff] at hc
        obtain ⟨n, hn, rfl⟩ := hc
        simp only [evK] at hv
        split at hv
        · rename_i e1
          cases hv
          have h1 := get_sound hy hs
          rw [e1] at h1
          obtain ⟨σ', y1, y2, y3⟩ := h.newRow0 e n h1.esl_inv
          exact ⟨σ', w, _, .inl (by simp [execOp, ho]), y1, y2, y3⟩
        · rename_i e1
          cases hv
          have h1 := ok_mv (P := P) (.inl ho) hy hs h
          rwa [e1] at h1
        · cases hv
      · cases hc
        simp only [evK] at hv
        cases hv
        exact ok_mv (.inl ho) hy hs h
  case h_2 x ho =>
    split at hc
    · cases hc
    · rename_i y hy
      split at hc
      · rename_i e _ he
        simp only [Option.map_eq_some_iff] at hc
        obtain ⟨n, hn, rfl⟩ := hc
        simp only [evK] at hv
        split at hv
        · rename_i e1
          cases hv
          have h1 := get_sound hy hs
          rw [e1] at h1
          obtain ⟨σ', y1, y2, y3⟩ := h.newRow0 e n h1.esl_inv
          exact ⟨σ', w, _, .inl (by simp [execOp, ho]), y1, y2, y3⟩
        · rename_i e1
          cases hv
          have h1 := ok_mv (P := P) (.inr ho) hy hs h
          rwa [e1] at h1
        · cases hv
      · cases hc
        simp only [evK] at hv
        cases hv
        exact ok_mv (.inr ho) hy hs h
  case h_3 c x y ho =>
    split at hc
    · rename_i c' x' y' hc' hx hy
      cases hc
      simp only [evK] at hv
      split at hv
      · rename_i t e1
        cases hv
        exact ok_pick ho hc' hx hy hs h e1
      · cases hv
    · cases hc
  case h_4 t ho =>
    simp only [Option.map_eq_some_iff] at hc
    obtain ⟨z, hz, rfl⟩ := hc
    simp only [evK] at hv
    cases hv
    exact ok_alloc ho hz h
  case h_5 t x ho =>
    simp only [Option.map_eq_some_iff] at hc
    obtain ⟨y, hy, rfl⟩ := hc
    simp only [evK] at hv
    split at hv
    · rename_i hsh
      cases hv
      exact ok_box ho hy hs h hsh
    · cases hv
  case h_6 t ps ho =>
    split at hc
    · rename_i fs z ht hz
      split at hc
      · rename_i hall
        simp only [Option.map_eq_some_iff] at hc
        obtain ⟨ps', hps, rfl⟩ := hc
        simp only [evK] at hv
        split at hv
        · rename_i zs hf
          cases hv
          exact ok_bd ho ht hz hall hps hs h hf
        · cases hv
      · cases hc
    · rename_i n e z ht hz
      split at hc
      · rename_i sz hsz
        simp only [Option.map_eq_some_iff] at hc
        obtain ⟨ps', hps, rfl⟩ := hc
        simp only [evK] at hv
        split at hv
        · rename_i zs hf
          cases hv
          exact ok_bdA ho ht hz hsz hps hs h hf
        · cases hv
      · cases hc
    · cases hc
  case h_7 t n ps ho =>
    split at hc
    · rename_i e he
      split at hc
      · rename_i sz l z hsz hl hz
        split at hc
        · rename_i hcond
          cases hc
          exact ok_bs ho (elOf_spec he) hsz hz hl hcond hs h hv
        · cases hc
      · cases hc
    · cases hc
  case h_8 t x ho =>
    split at hc
    · rename_i y n g hy hn hg
      split at hc
      · rename_i hg1
        cases hc
        simp only [evK] at hv
        split at hv
        · rename_i cs hl
          split at hv
          · rename_i v' ho'
            cases hv
            exact ok_load ho hy hn hg hg1 hs h hl ho'
          · cases hv
        · cases hv
      · cases hc
    · cases hc
  case h_9 t x y ho =>
    split at hc
    · rename_i x' y' n hx hy hn
      cases hc
      simp only [evK] at hv
      split at hv
      · rename_i hcc
        simp only [Bool.and_eq_true, beq_iff_eq] at hcc
        split at hv
        · rename_i H1 hst
          cases hv
          exact ok_store ho hx hy hn hs h hcc.1 hcc.2 hst
        · cases hv
      · cases hv
    · cases hc
  case h_10 x ho =>
    simp only [Option.map_eq_some_iff] at hc
    obtain ⟨y, hy, rfl⟩ := hc
    simp only [evK] at hv
    split at hv
    · rename_i b n e1
      cases hv
      rw [← e1]
      exact ok_nc ho hy hs h (.inl ⟨b, n, e1⟩)
    · rename_i cs e1
      cases hv
      rw [← e1]
      exact ok_nc ho hy hs h (.inr (.inl ⟨cs, e1⟩))
    · rename_i f cs e1
      cases hv
      rw [← e1]
      exact ok_nc ho hy hs h (.inr (.inr ⟨f, cs, e1⟩))
    · cases hv
  case h_11 op t x y t' ho =>
    split at hc
    · rename_i x' y' hx hy
      split at hc
      · rename_i hb
        split at hc
        · cases hc
          simp only [evK] at hv
          split at hv
          · rename_i v' e1
            cases hv
            exact ok_eqs (neg := false) ho (isBoolT_spec hb) hx hy hs h e1
          · cases hv
        · cases hc
          simp only [evK] at hv
          split at hv
          · rename_i v' e1
            cases hv
            exact ok_eqs (neg := true) ho (isBoolT_spec hb) hx hy hs h e1
          · cases hv
        · cases hc
      · split at hc
        · rename_i hp
          split at hc
          · cases hc
            simp only [evK] at hv
            split at hv
            · rename_i v' e1
              cases hv
              exact ok_eqp (neg := false) ho (isPtrT_spec hp) hx hy hs h e1
            · cases hv
          · cases hc
            simp only [evK] at hv
            split at hv
            · rename_i v' e1
              cases hv
              exact ok_eqp (neg := true) ho (isPtrT_spec hp) hx hy hs h e1
            · cases hv
          · cases hc
        · split at hc
          · rename_i hw
            split at hc
            · rename_i kt hkt
              cases hc
              exact ok_eqg (neg := false) ho hw hkt hx hy hs h hv
            · rename_i kt hkt
              cases hc
              exact ok_eqg (neg := true) ho hw hkt hx hy hs h hv
            · cases hc
          · split at hc
            · rename_i hel
              split at hc
              · rename_i hnl
                split at hc
                · cases hc; exact ok_isnS (neg := false) ho hel hnl hx hs h hv
                · cases hc; exact ok_isnS (neg := true) ho hel hnl hx hs h hv
                · cases hc
              · cases hc
            · split at hc
              · rename_i hel
                split at hc
                · rename_i hnl
                  split at hc
                  · cases hc; exact ok_isnM (neg := false) ho hel hnl hx hs h hv
                  · cases hc; exact ok_isnM (neg := true) ho hel hnl hx hs h hv
                  · cases hc
                · cases hc
              · cases hc
                simp only [evK] at hv
                split at hv
                · rename_i v' e1
                  cases hv
                  exact ok_bin ho hx hy hs h e1
                · cases hv
    · cases hc
  case h_12 op t x ho =>
    simp only [Option.map_eq_some_iff] at hc
    obtain ⟨y, hy, rfl⟩ := hc
    simp only [evK] at hv
    split at hv
    · rename_i v' e1
      cases hv
      exact ok_un ho hy hs h e1
    · cases hv
  case h_13 r t x ho =>
    split at hc
    · rename_i k' x' hk hx
      split at hc
      · rename_i hr
        cases hc
        simp only [evK] at hv
        split at hv
        · rename_i e1
          cases hv
          exact ok_cvi ho hr (isIntT_spec hk) hx hs h e1
        · cases hv
      · cases hc
    · rename_i x' _ hx
      split at hc
      · rename_i hbt
        cases hc
        simp only [Bool.and_eq_true] at hbt
        exact ok_b2s ho hbt.1 (isStrT_spec hbt.2) hx hs h hv
      · split at hc
        · rename_i hbt
          cases hc
          simp only [Bool.and_eq_true] at hbt
          exact ok_s2b ho (isStrT_spec hbt.1) hbt.2 hx hs h hv
        · cases hc
    · cases hc
  case h_14 t x f ho =>
    split at hc
    · rename_i fs x' ht hx
      split at hc
      · rename_i fl hf
        split at hc
        · rename_i n hn
          cases hc
          simp only [evK] at hv
          split at hv
          · rename_i v' e1
            cases hv
            exact ok_fa ho ht hf hn hx hs h e1
          · cases hv
        · cases hc
      · cases hc
    · cases hc
  case h_15 t x f ho =>
    split at hc
    · rename_i fs x' ht hx
      split at hc
      · rename_i fl hf
        split at hc
        · rename_i n g hn hg
          split at hc
          · cases hc
            simp only [evK] at hv
            split at hv
            · rename_i cs e1
              split at hv
              · rename_i hle
                split at hv
                · rename_i v' e2
                  cases hv
                  exact ok_fld ho ht hf hn hg hx hs h e1 hle e2
                · cases hv
              · cases hv
            · cases hv
          · cases hc
        · cases hc
      · cases hc
    · cases hc
  case h_16 t x y ho =>
    split at hc
    · rename_i e x' y' ht hx hy
      simp only [Option.map_eq_some_iff] at hc
      obtain ⟨sz, hz, rfl⟩ := hc
      simp only [evK] at hv
      split at hv
      · rename_i e1
        split at hv
        · rename_i v' e2
          cases hv
          exact ok_ia ho ht hz hx hy hs h e1 e2
        · cases hv
      · cases hv
    · rename_i n e x' y' ht hx hy
      simp only [Option.map_eq_some_iff] at hc
      obtain ⟨sz, hz, rfl⟩ := hc
      simp only [evK] at hv
      split at hv
      · rename_i e1
        split at hv
        · rename_i hcc
          split at hv
          · rename_i v' e2
            cases hv
            exact ok_iar ho ht hz hx hy hs h e1 hcc e2
          · cases hv
        · cases hv
      · cases hv
    · cases hc
  case h_17 t x y ho =>
    split at hc
    · rename_i x' y' ht hx hy
      cases hc
      simp only [evK] at hv
      split at hv
      · rename_i e1 e2
        split at hv
        · rename_i hcc
          cases hv
          exact ok_ix ho ht hx hy hs h e1 e2 hcc
        · cases hv
      · cases hv
    · rename_i len e x' y' ht hx hy
      split at hc
      · rename_i hz hg
        cases hc
        simp only [evK] at hv
        split at hv
        · rename_i e1 e2
          split at hv
          · rename_i hcc
            cases hv
            exact ok_ixv ho ht hz hg hx hy hs h e1 e2 hcc
          · cases hv
        · cases hv
      · cases hc
    · cases hc
  case h_18 t x lo hi ho =>
    split at hc
    · rename_i x' lo' hi' ht hx hlo hhi
      cases hc
      simp only [evK] at hv
      split at hv
      · rename_i hstr
        split at hv
        · rename_i n hn
          split at hv
          · rename_i l hh hl hh'
            split at hv
            · rename_i v' e2
              cases hv
              exact ok_sli ho hx hlo hhi hs h hn hl hh' e2 (.inl ⟨ht, isStr_true hstr⟩)
            · cases hv
          · cases hv
        · cases hv
      · cases hv
    · rename_i e x' lo' hi' ht hx hlo hhi
      simp only [Option.map_eq_some_iff] at hc
      obtain ⟨sz, hz, rfl⟩ := hc
      simp only [evK] at hv
      split at hv
      · rename_i hstr
        split at hv
        · rename_i n hn
          split at hv
          · rename_i l hh hl hh'
            split at hv
            · rename_i v' e2
              cases hv
              exact ok_sli ho hx hlo hhi hs h hn hl hh' e2 (.inr ⟨e, ht, hz, isStr_false hstr⟩)
            · cases hv
          · cases hv
        · cases hv
      · cases hv
    · rename_i r x' lo' hi' ht hx hlo hhi
      split at hc
      · rename_i n e har
        simp only [Option.map_eq_some_iff] at hc
        obtain ⟨sz, hz, rfl⟩ := hc
        exact ok_sla ho ht (arT_spec har) hz hx hlo hhi hs h hv
      · cases hc
    · rename_i n e x' lo' hi' ht hx hlo hhi
      simp only [Option.map_eq_some_iff] at hc
      obtain ⟨sz, hz, rfl⟩ := hc
      exact ok_slb ho ht hz hx hlo hhi hs h hv
    · cases hc
  case h_19 x i ho =>
    simp only [Option.map_eq_some_iff] at hc
    obtain ⟨y, hy, rfl⟩ := hc
    simp only [evK] at hv
    split at hv
    · rename_i cs e1
      split at hv
      · rename_i v' e2
        cases hv
        exact ok_ext ho hy hs h e1 e2
      · cases hv
    · cases hv
  case h_20 f first caps ho =>
    split at hc
    · rename_i h0
      simp only [Option.map_eq_some_iff] at hc
      obtain ⟨ys, hy, rfl⟩ := hc
      simp only [evK] at hv
      cases hv
      exact ok_mkf ho h0 hy hs h
    · cases hc
  case h_21 c ho =>
    split at hc
    · rename_i f hcal
      split at hc
      · simp only [Option.map_eq_some_iff] at hc
        obtain ⟨ys, hy, rfl⟩ := hc
        simp [evK] at hv
      · split at hc
        · rename_i hext
          split at hc
          · rename_i x y hA
            split at hc
            · rename_i x' y' hx hy
              cases hc
              exact ok_ixb ho hcal hA hext hx hy hs h hv
            · cases hc
          · cases hc
        · cases hc
    · simp only [Option.map_eq_some_iff] at hc
      obtain ⟨ys, hy, rfl⟩ := hc
      simp [evK] at hv
    · rename_i hcal
      split at hc
      · rename_i t x hT hA
        split at hc
        · rename_i x' ht hx
          cases hc
          simp only [evK] at hv
          split at hv
          · rename_i hstr
            split at hv
            · rename_i n hn
              cases hv
              exact ok_len ho hcal hT hA (.inl ht) hx hs h hn ⟨fun _ => isStr_true hstr, fun ⟨e, he⟩ => by rw [ht] at he; cases he⟩
            · cases hv
          · cases hv
        · rename_i e x' ht hx
          cases hc
          simp only [evK] at hv
          split at hv
          · rename_i hstr
            split at hv
            · rename_i n hn
              cases hv
              exact ok_len ho hcal hT hA (.inr ⟨e, ht⟩) hx hs h hn ⟨fun he => (by rw [ht] at he; cases he), fun _ => isStr_false hstr⟩
            · cases hv
          · cases hv
        · cases hc
      · cases hc
    · rename_i hcal
      simp only [Option.map_eq_some_iff] at hc
      obtain ⟨ys, hy, rfl⟩ := hc
      simp only [evK] at hv
      split at hv
      · rename_i e1
        cases hv
        exact ok_mn ho hcal hy hs h e1
      · cases hv
    · rename_i hcal
      simp only [Option.map_eq_some_iff] at hc
      obtain ⟨ys, hy, rfl⟩ := hc
      simp only [evK] at hv
      split at hv
      · rename_i e1
        cases hv
        exact ok_mx ho hcal hy hs h e1
      · cases hv
    · rename_i hcal
      split at hc
      · rename_i t tx x y hT hA
        split at hc
        · rename_i e x' y' he hx hy
          split at hc
          · rename_i sz by' z hz hb hzz
            split at hc
            · rename_i hcond
              cases hc
              obtain ⟨c1, c2, c3⟩ := hcond
              exact ok_app ho hcal hT hA (elOf_spec he) hz hb hzz c2 c1 (by
                rw [Bool.or_eq_true] at c3
                exact c3.imp id isStrT_spec) hx hy hs h hv
            · cases hc
          · cases hc
        · cases hc
      · cases hc
    · rename_i hcal
      split at hc
      · rename_i t tx x y hT hA
        split at hc
        · rename_i e x' y' he hx hy
          split at hc
          · rename_i sz hz
            split at hc
            · rename_i hcond
              cases hc
              obtain ⟨c1, c3⟩ := hcond
              exact ok_cpy ho hcal hT hA (elOf_spec he) hz c1 (by
                rw [Bool.or_eq_true] at c3
                exact c3.imp id isStrT_spec) hx hy hs h hv
            · cases hc
          · cases hc
        · cases hc
      · cases hc
    · rename_i hcal
      split at hc
      · rename_i t t2 x y hT hA
        split at hc
        · rename_i kt z x' y' ht hx hy
          cases hc
          exact ok_del ho hcal hT hA ht hx hy hs h hv
        · cases hc
      · cases hc
    · cases hc
  case h_22 t x y ho =>
    split at hc
    · rename_i e x' y' he hx hy
      split at hc
      · rename_i sz by' z hz hb hzz
        split at hc
        · rename_i hcond
          cases hc
          exact ok_mks ho (elOf_spec he) hz hb hzz hcond.2.1 hcond.1 hcond.2.2 hx hy hs h hv
        · cases hc
      · cases hc
    · cases hc
  case h_23 t ho =>
    simp only [Option.map_eq_some_iff] at hc
    obtain ⟨⟨kt, z⟩, ht, rfl⟩ := hc
    simp only [evK] at hv
    cases hv
    exact ok_mkm ho (.inl rfl) ht h
  case h_24 t k n ho =>
    simp only [Option.map_eq_some_iff] at hc
    obtain ⟨⟨kt, z⟩, ht, rfl⟩ := hc
    simp only [evK] at hv
    cases hv
    exact ok_mkm ho (.inr ⟨_, _, rfl⟩) ht h
  case h_25 t x y okk ho =>
    split at hc
    · rename_i kt z x' y' ht hx hy
      cases hc
      exact ok_lk ho ht hx hy hs h hv
    · cases hc
  case h_26 t x y q ho =>
    split at hc
    · rename_i kt z x' y' q' ht hx hy hq
      cases hc
      exact ok_mu (.inl ho) ht hx hy hq hs h hv
    · cases hc
  case h_27 t x y q ho =>
    split at hc
    · rename_i kt z x' y' q' ht hx hy hq
      cases hc
      exact ok_mu (.inr ho) ht hx hy hq hs h hv
    · cases hc
  case h_28 t x y ho =>
    split at hc
    · rename_i kt z x' y' ht hx hy
      cases hc
      exact ok_me ho ht hx hy hs h hv
    · cases hc
  case h_29 t x y q ho =>
    split at hc
    · rename_i x' y' q' hx hy hq
      cases hc
      exact ok_mes ho hx hy hq hs h hv
    · cases hc
  all_goals cases hc

end
end Go.Proofs.Ytalhmnijkkihgaa
