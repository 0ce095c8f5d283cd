/- A line's word, an instruction or not. -/
import Derived.Test.YtmgmoamcbnkbfaaGreatDoorYL4
set_option linter.unusedVariables false
set_option linter.unusedSimpArgs false
set_option linter.unusedSectionVars false
namespace Go.Proofs.YtmgmoamcbnkbfaaGreatDoor
set_option linter.unusedSimpArgs false
set_option linter.unusedVariables false
set_option maxRecDepth 20000
set_option maxHeartbeats 2000000
open Go.RowKit

/-- A word's line, an instruction or not. -/
noncomputable def ltxt (w : Int) : List UInt8 := if decE w = 0 then txtF (decX w) else rawT w.toNat
theorem ext1 (c : UInt8) (l : List UInt8) : (bs (c :: l)).extract 1 (c :: l).toArray.size = bs l := by
  apply ByteArray.ext
  rw [ByteArray.data_extract]
  simp
theorem either0_c {H0 H : List ABlk} {nb : Nat} (hn : NAt H0 H nb tab) {w : Int} (hw : U32 w) (he : decE w = 0) : ACalls Tryz.prog 15 [.ptr nb 0, sv (bs (txtF (decX w)))] H fun v H' => v = .tup [wv w, iv 0] ∧ H' = H := by
  have hwd := lword_c hn hw he
  obtain ⟨hx, hee, -⟩ := dec_spec hw
  rw [he] at hee
  rcases hee with ⟨-, hgd, -⟩ | h
  rotate_left
  · cases h
  generalize decX w = x at *
  obtain ⟨e, hte, hsh⟩ := ent_at hx hgd
  obtain ⟨l1, l2, hno, hne⟩ := tab_lks hte
  have hnm : nmF x = e.nm := by rw [nmF, List.getD_eq_getElem?_getD, hte]; rfl
  have hp : Lib.hasPrefix (bs (txtF x)).data.toList (⟨#[35]⟩ : ByteArray).data.toList = false := by
    show Lib.hasPrefix (txtF x) [35] = false
    rw [txtF, hnm]
    cases hi : e.nm with
    | nil => exact absurd hi hne
    | cons c l =>
      have hc : c ≠ 35 := (hno c (by rw [hi]; exact List.mem_cons_self)).2.2
      simp [Lib.hasPrefix, List.isPrefixOf, beq_eq_false_iff_ne.2 hc.symm]
  have hpr := hasPrefix_c (bs (txtF x)) ⟨#[35]⟩
  rw [hp] at hpr
  refine ACalls.into Tryz.func15 cc15 rr15 fun hcl => ?_
  simp (maxSteps := 2000000) (disch := omega) only [Tryz.ntmps15, c15, r15, go_sem, seval, eq_self, if_true, if_false, reduceCtorEq]
  refine Cont.mk (hpr _) ?_
  simp (maxSteps := 2000000) (disch := omega) only [go_sem, seval, eq_self, if_true, if_false, reduceCtorEq]
  refine Cont.mk hwd ?_
  simp (maxSteps := 2000000) (disch := omega) only [go_sem, seval, eq_self, if_true, if_false, reduceCtorEq]
  exact Ret.keep ⟨rfl, rfl⟩
theorem either1_c {H0 H : List ABlk} {nb : Nat} (hn : NAt H0 H nb tab) {w : Int} (hw : U32 w) (he : decE w ≠ 0) : ACalls Tryz.prog 15 [.ptr nb 0, sv (bs (rawT w.toNat))] H fun v H' => v = .tup [wv w, iv 0] ∧ H' = H := by
  obtain ⟨hx, hee, hdc⟩ := dec_spec hw
  have he : decE w = 20 := by
    rcases hee with ⟨h, -⟩ | h
    · exact absurd h he
    · exact h
  rw [he] at hdc
  generalize decX w = x at *
  obtain ⟨u, rfl⟩ : ∃ u : Nat, w = u := ⟨w.toNat, by omega⟩
  rw [Int.toNat_natCast]
  have hu : u < 4294967296 := by omega
  have hp : Lib.hasPrefix (bs (rawT u)).data.toList (⟨#[35]⟩ : ByteArray).data.toList = true := rfl
  have hpr := hasPrefix_c (bs (rawT u)) ⟨#[35]⟩
  rw [hp] at hpr
  have hpu := pu_c (hex8 u) (hex8_len hu) hex8_lt
  rw [hex8_val] at hpu
  have hwr : IntKind.u32.wrap (u : Int) = (u : Int) := by simp [IntKind.wrap, IntKind.signed, IntKind.bits]; omega
  have hrw := raw_c u hu
  refine ACalls.into Tryz.func15 cc15 rr15 fun hcl => ?_
  simp (maxSteps := 2000000) (disch := omega) only [Tryz.ntmps15, c15, r15, go_sem, seval, eq_self, if_true, if_false, reduceCtorEq]
  refine Cont.mk (hpr _) ?_
  simp (maxSteps := 2000000) (disch := omega) only [go_sem, seval, eq_self, if_true, if_false, reduceCtorEq]
  have h9 : (1 ≤ ((rawT u).toArray.size : Int)) = True := eq_true (by rw [List.size_toArray, rawT, List.length_cons]; omega)
  have hx1 : (bs (rawT u)).extract 1 (rawT u).toArray.size = bs (List.map hexD (hex8 u)) := ext1 35 _
  simp (maxSteps := 2000000) (disch := omega) only [h9, hx1, go_sem, seval, eq_self, if_true, if_false, reduceCtorEq]
  refine Cont.mk (hpu _) ?_
  simp (maxSteps := 2000000) (disch := omega) only [hwr, go_sem, seval, eq_self, if_true, if_false, reduceCtorEq]
  refine Cont.mk (hdc _) ?_
  simp (maxSteps := 2000000) (disch := omega) only [hwr, go_sem, seval, eq_self, if_true, if_false, reduceCtorEq]
  refine Cont.mk (hrw _) ?_
  simp (maxSteps := 2000000) (disch := omega) only [hwr, go_sem, seval, eq_self, if_true, if_false, reduceCtorEq]
  exact Ret.drop _ H (Nat.le_refl _) hcl (.rfl _) (by simp [refs, refs.refsL]) ⟨rfl, rfl⟩
/-- A WORD OUT OF ITS LINE. -/
theorem either_c {H0 H : List ABlk} {nb : Nat} (hn : NAt H0 H nb tab) {w : Int} (hw : U32 w) : ACalls Tryz.prog 15 [.ptr nb 0, sv (bs (ltxt w))] H fun v H' => v = .tup [wv w, iv 0] ∧ H' = H := by
  unfold ltxt
  split
  · rename_i h; exact either0_c hn hw h
  · rename_i h; exact either1_c hn hw h
theorem ltxt_no {w : Int} (hw : U32 w) : (10 : UInt8) ∉ ltxt w ∧ (ltxt w).length ≤ 40 ∧ ltxt w ≠ [] := by
  obtain ⟨hx, hee, hdc⟩ := dec_spec hw
  unfold ltxt
  split
  · rename_i h0
    rw [h0] at hee
    rcases hee with ⟨-, hgd, -⟩ | h
    rotate_left
    · cases h
    generalize decX w = x at *
    obtain ⟨e, hte, hsh⟩ := ent_at hx hgd
    obtain ⟨l1, l2, hno, hne⟩ := tab_lks hte
    obtain ⟨eo, -⟩ := tab_at hte
    have hnm : nmF x = e.nm := by rw [nmF, List.getD_eq_getElem?_getD, hte]; rfl
    refine ⟨?_, txt_len hx hnm eo, ?_⟩
    · rw [txtF, hnm, opsF_V]
      intro hc
      rcases List.mem_append.1 hc with hc | hc
      · exact (hno _ hc).2.1 rfl
      rcases List.mem_cons.1 hc with hc | hc
      · cases hc
      have : ∀ l : List (Int × Bool), (10 : UInt8) ∉ joinS (l.map opT) := by
        intro l
        induction l with
        | nil => simp [joinS]
        | cons p l ih =>
          have hp := opT_no p (c := 10) (by decide) (by decide) (by decide)
          cases l with
          | nil => exact hp
          | cons q l =>
            simp only [List.map_cons, joinS] at ih ⊢
            intro h
            rcases List.mem_append.1 h with h | h
            · exact hp h
            rcases List.mem_cons.1 h with h | h
            · cases h
            rcases List.mem_cons.1 h with h | h
            · cases h
            · exact ih h
      exact this _ hc
    · rw [txtF]; simp
  · refine ⟨?_, ?_, by simp [rawT]⟩
    · rw [rawT]
      intro hc
      rcases List.mem_cons.1 hc with hc | hc
      · cases hc
      obtain ⟨d, hd, he⟩ := List.mem_map.1 hc
      have := hexD_nat (hex8_lt d hd)
      rw [he] at this
      split at this <;> simp at this <;> omega
    · rw [rawT, List.length_cons, List.length_map, hex8_len (by omega)]; omega
end Go.Proofs.YtmgmoamcbnkbfaaGreatDoor

/- Words, line by line. -/
namespace Go.Proofs.YtmgmoamcbnkbfaaGreatDoor
set_option linter.unusedSimpArgs false
set_option linter.unusedVariables false
set_option maxRecDepth 20000
set_option maxHeartbeats 2000000
open Go.RowKit

noncomputable def linesT (ws : List Int) : List UInt8 := ws.flatMap fun w => ltxt w ++ [10]
theorem linesT_app (l : List Int) (w : Int) : linesT (l ++ [w]) = linesT l ++ ltxt w ++ [10] := by simp [linesT, List.append_assoc]
theorem linesT_len : ∀ l : List Int, (∀ w ∈ l, U32 w) → (linesT l).length ≤ 41 * l.length
  | [], _ => by simp [linesT]
  | w :: l, h => by
    have h1 := (ltxt_no (h w (by simp))).2.1
    have h2 := linesT_len l fun z hz => h z (List.mem_cons_of_mem _ hz)
    simp only [linesT, List.flatMap_cons, List.length_append, List.length_cons, List.length_nil] at h2 ⊢
    omega
theorem wd_ia {l : List Int} {k : Nat} {w : Int} (h : l[k]? = some w) : iaA (.d (.sl (l.map ud))) (k : Int) 1 = some (.ip (ud w)) := by
  have hk : k < l.length := (List.getElem?_eq_some_iff.1 h).1
  have hx : (l.map ud).getD k [] = ud w := by rw [List.getD_eq_getElem?_getD, List.getElem?_map, h]; rfl
  simp only [iaA]
  rw [if_pos ⟨by omega, by rw [List.length_map]; omega, by rw [Int.toNat_natCast, hx]; rfl⟩, Int.toNat_natCast, hx]
structure LnG where
  k : Nat
  H : List ABlk
theorem lines_c {ws : List Int} (hl : ws.length ≤ 2000) (hr : ∀ x ∈ ws, U32 x) (H : List ABlk) : ACalls Tryz.prog 6 [.d (.sl (ws.map ud))] H fun v H' => v = sv (bs (linesT ws)) ∧ H' = H := by
  refine ACalls.into Tryz.func6 cc6 rr6 fun hcl => ?_
  simp (maxSteps := 2000000) (disch := omega) only [Tryz.ntmps6, c6, r6, go_sem, seval, eq_self, if_true, if_false, reduceCtorEq]
  refine Cont.rel (named_c H) ?_
  rintro v H1 ⟨nb, rfl, hn⟩
  simp (maxSteps := 2000000) (disch := omega) only [go_sem, seval, eq_self, if_true, if_false, reduceCtorEq]
  have hpr := hn.pre
  obtain ⟨S, hS⟩ : ∃ S : LnG → List AV, ∀ g, S g = [.d (.sl (ws.map ud)), .any, .any, .ptr nb 0, .ptr H1.length 0, .any, .any, .any, .any, .any, .d (.sl (ws.map ud)), iv ws.length, iv g.k] ++ List.replicate 18 .any := ⟨_, fun _ => rfl⟩
  refine W.loopG (γ := LnG) (fun g => ws.length - g.k) S (fun g => g.H) (fun g => g.k ≤ ws.length ∧ BS H1 g.H H1.length (linesT (ws.take g.k)) ∧ (g.k = 0 → g.H = H1 ++ [.bld 50])) ⟨0, H1 ++ [.bld 50]⟩ (Wk.slots (by rw [hS]; exact WkL.tail 13 _ rfl (by simp only [List.take_succ_cons, List.take_zero]; repeat' first | exact WkL.nil | refine WkL.cons (Wk1.rfl _) ?_ | refine WkL.cons Wk1.esl ?_ | refine WkL.cons (Wk1.gsl _ _ _) ?_ | refine WkL.cons (Wk1.any _) ?_))) ⟨Nat.zero_le _, ⟨⟨_, rfl⟩, Nat.le_refl _, .inl ⟨rfl, by simp⟩⟩, fun _ => rfl⟩ ?_
  rintro ⟨k, G⟩ ⟨hk, hb, hz⟩
  simp only at hk hb hz
  by_cases hkn : k < ws.length
  · obtain ⟨w, hw⟩ : ∃ w, ws[k]? = some w := ⟨_, List.getElem?_eq_getElem hkn⟩
    have hwu := hr w (List.mem_of_getElem? hw)
    have hia := wd_ia hw
    have htk : linesT (ws.take (k + 1)) = linesT (ws.take k) ++ ltxt w ++ [10] := by rw [List.take_add_one, hw]; exact linesT_app _ _
    have hlen := linesT_len (ws.take k) fun z hz => hr z (List.mem_of_mem_take hz)
    rw [List.length_take] at hlen
    obtain ⟨-, hl40, -⟩ := ltxt_no hwu
    obtain ⟨l, hG⟩ := hb.pre
    have hng : NAt H G nb tab := hG ▸ hn.ext
    obtain ⟨hx, hee, -⟩ := dec_spec hwu
    by_cases h0 : decE w = 0
    · have hlt : ltxt w = txtF (decX w) := if_pos h0
      have hln := line1_c hng hwu h0
      rw [← hlt] at hln
      simp (maxSteps := 2000000) (disch := omega) only [hS, c6l0, hia, go_sem, seval, eq_self, if_true, if_false, reduceCtorEq]
      refine Cont.mk hln ?_
      simp (maxSteps := 2000000) (disch := omega) only [go_sem, seval, eq_self, if_true, if_false, reduceCtorEq]
      refine Cont.rel (writeS_c hb _ (by rw [bs_size]; omega)) ?_
      rintro v G2 ⟨rfl, hb2⟩
      simp (maxSteps := 2000000) (disch := omega) only [go_sem, seval, eq_self, if_true, if_false, reduceCtorEq]
      refine Cont.rel (writeB_c hb2 10 (by rw [List.length_append, show (bs (ltxt w)).data.toList = ltxt w from rfl]; omega)) ?_
      rintro v G3 ⟨rfl, hb3⟩
      simp (maxSteps := 2000000) (disch := omega) only [go_sem, seval, eq_self, if_true, if_false, reduceCtorEq]
      exact Nxt.mk ⟨k + 1, G3⟩ (by simp only; omega) (Wk.slots (by rw [hS]; exact WkL.tail 13 _ rfl (by simp only [List.take_succ_cons, List.take_zero]; repeat' first | exact WkL.nil | refine WkL.cons (Wk1.rfl _) ?_ | refine WkL.cons Wk1.esl ?_ | refine WkL.cons (Wk1.gsl _ _ _) ?_ | refine WkL.cons (Wk1.any _) ?_))) ⟨by simp only; omega, htk ▸ hb3, fun h => absurd h (by simp only; omega)⟩
    · have hlt : ltxt w = rawT w.toNat := if_neg h0
      have hln := line0_c hng hwu (by rcases hee with ⟨h, -⟩ | h; exact absurd h h0; exact h)
      obtain ⟨u, rfl⟩ : ∃ u : Nat, w = u := ⟨w.toNat, by omega⟩
      have hrw := raw_c u (by omega)
      rw [show (u : Int).toNat = u from Int.toNat_natCast u] at hlt
      rw [← hlt] at hrw
      simp (maxSteps := 2000000) (disch := omega) only [hS, c6l0, hia, go_sem, seval, eq_self, if_true, if_false, reduceCtorEq]
      refine Cont.mk hln ?_
      simp (maxSteps := 2000000) (disch := omega) only [go_sem, seval, eq_self, if_true, if_false, reduceCtorEq]
      refine Cont.mk (hrw _) ?_
      simp (maxSteps := 2000000) (disch := omega) only [go_sem, seval, eq_self, if_true, if_false, reduceCtorEq]
      refine Cont.rel (writeS_c hb _ (by rw [bs_size]; omega)) ?_
      rintro v G2 ⟨rfl, hb2⟩
      simp (maxSteps := 2000000) (disch := omega) only [go_sem, seval, eq_self, if_true, if_false, reduceCtorEq]
      refine Cont.rel (writeB_c hb2 10 (by rw [List.length_append, show (bs (ltxt (u : Int))).data.toList = ltxt (u : Int) from rfl]; omega)) ?_
      rintro v G3 ⟨rfl, hb3⟩
      simp (maxSteps := 2000000) (disch := omega) only [go_sem, seval, eq_self, if_true, if_false, reduceCtorEq]
      exact Nxt.mk ⟨k + 1, G3⟩ (by simp only; omega) (Wk.slots (by rw [hS]; exact WkL.tail 13 _ rfl (by simp only [List.take_succ_cons, List.take_zero]; repeat' first | exact WkL.nil | refine WkL.cons (Wk1.rfl _) ?_ | refine WkL.cons Wk1.esl ?_ | refine WkL.cons (Wk1.gsl _ _ _) ?_ | refine WkL.cons (Wk1.any _) ?_))) ⟨by simp only; omega, htk ▸ hb3, fun h => absurd h (by simp only; omega)⟩
  · have e8 : k = ws.length := by omega
    subst e8
    rw [List.take_of_length_le (Nat.le_refl _)] at hb
    have hlo := hpr.length_le
    rcases hb.st with ⟨h0, hbl⟩ | ⟨ob, hbl, hob, hlob⟩
    · rw [h0]
      simp (maxSteps := 2000000) (disch := omega) only [hS, c6l0, go_sem, seval, eq_self, if_true, if_false, reduceCtorEq]
      refine Cont.mk (string0_c hbl) ?_
      simp (maxSteps := 2000000) (disch := omega) only [go_sem, seval, eq_self, if_true, if_false, reduceCtorEq]
      exact Ret.pre _ H (hpr.trans hb.pre) (Nat.le_refl _) hcl (.rfl _) (by simp [refs, refs.refsL]) ⟨rfl, rfl⟩
    · have hne : linesT ws ≠ [] := fun e => by
        cases ws with
        | nil =>
          have := hz rfl
          subst this
          rw [List.getElem?_append_right (Nat.le_refl _), Nat.sub_self] at hbl
          cases hbl
        | cons w l => simp [linesT] at e
      simp (maxSteps := 2000000) (disch := omega) only [hS, c6l0, go_sem, seval, eq_self, if_true, if_false, reduceCtorEq]
      refine Cont.mk (string1_c hbl hob hne) ?_
      simp (maxSteps := 2000000) (disch := omega) only [go_sem, seval, eq_self, if_true, if_false, reduceCtorEq]
      exact Ret.pre _ H (hpr.trans (pre_set hb.pre hlob _)) (Nat.le_refl _) hcl (.rfl _) (by simp [refs, refs.refsL]) ⟨rfl, rfl⟩
end Go.Proofs.YtmgmoamcbnkbfaaGreatDoor

/- Words out of their lines. -/
namespace Go.Proofs.YtmgmoamcbnkbfaaGreatDoor
set_option linter.unusedSimpArgs false
set_option linter.unusedVariables false
set_option maxRecDepth 20000
set_option maxHeartbeats 2000000
open Go.RowKit

theorem lines_count : ∀ l : List Int, (∀ w ∈ l, U32 w) → (linesT l).count 10 = l.length
  | [], _ => rfl
  | w :: l, h => by
    have h1 := (ltxt_no (h w (by simp))).1
    have h2 := lines_count l fun z hz => h z (List.mem_cons_of_mem _ hz)
    simp only [linesT] at h2
    simp only [linesT, List.flatMap_cons, List.count_append, h2, List.count_eq_zero.2 h1, List.length_cons]
    simp; omega
theorem lines_cons (w : Int) (l : List Int) : linesT (w :: l) = ltxt w ++ 10 :: linesT l := by simp [linesT]
/-- The words read so far. -/
def wlA (b : Nat) : List Int → AV
  | [] => .esl
  | p :: l => .gsl b 1 ((p :: l).map ud)
def wlH (G : List ABlk) : List Int → List ABlk
  | [] => G
  | p :: l => G ++ [.row 44 1 (l.length + 1)]
theorem wlA_n (b : Nat) : wlA b [] = .esl := rfl
theorem wlH_n (G : List ABlk) : wlH G [] = G := rfl
theorem wlA_c (b : Nat) (p : Int) (l : List Int) : wlA b (p :: l) = .gsl b 1 (ud p :: l.map ud) := rfl
theorem wlH_c (G : List ABlk) (p : Int) (l : List Int) : wlH G (p :: l) = G ++ [.row 44 1 (l.length + 1)] := rfl
theorem wl_wk (b : Nat) : ∀ l : List Int, Wk1 (wlA b l) (.d (.sl (l.map ud)))
  | [] => .esl
  | p :: l => .gsl _ _ _
theorem wlH_pre (G : List ABlk) : ∀ l, G <+: wlH G l
  | [] => List.prefix_rfl
  | p :: l => ⟨_, rfl⟩
theorem words_c {ws : List Int} (hl : ws.length ≤ 2000) (hr : ∀ x ∈ ws, U32 x) (H : List ABlk) : ACalls Tryz.prog 5 [sv (bs (linesT ws))] H fun v H' => v = .tup [.d (.sl (ws.map ud)), iv 0, iv 0] ∧ H' = H := by
  have hcn := count1_c (bs (linesT ws)) 10
  rw [show Lib.countByte (bs (linesT ws)).data.toList 10 = ws.length from lines_count ws hr] at hcn
  refine ACalls.into Tryz.func5 cc5 rr5 fun hcl => ?_
  simp (maxSteps := 2000000) (disch := omega) only [Tryz.ntmps5, c5, r5, go_sem, seval, eq_self, if_true, if_false, reduceCtorEq]
  refine Cont.mk (hcn _) ?_
  simp (maxSteps := 2000000) (disch := omega) only [go_sem, seval, eq_self, if_true, if_false, reduceCtorEq]
  refine Cont.rel (named_c H) ?_
  rintro v H1 ⟨nb, rfl, hn⟩
  simp (maxSteps := 2000000) (disch := omega) only [go_sem, seval, eq_self, if_true, if_false, reduceCtorEq]
  have hpr := hn.pre
  obtain ⟨S, hS⟩ : ∃ S : Nat → List AV, ∀ k, S k = [sv (bs (linesT (ws.drop k))), .any, .esl, iv 0, iv 0, .any, .ptr nb 0, wlA H1.length (ws.take k)] ++ List.replicate 38 .any := ⟨_, fun _ => rfl⟩
  refine W.loopG (γ := Nat) (fun k => ws.length - k) S (fun k => wlH H1 (ws.take k)) (fun k => k ≤ ws.length) 0 (Wk.slots (by rw [hS]; exact WkL.tail 8 _ rfl (by simp only [List.take_succ_cons, List.take_zero]; repeat' first | exact WkL.nil | refine WkL.cons (Wk1.rfl _) ?_ | refine WkL.cons Wk1.esl ?_ | refine WkL.cons (Wk1.gsl _ _ _) ?_ | refine WkL.cons (Wk1.any _) ?_))) (Nat.zero_le _) (fun k hk => ?_)
  by_cases hkn : k < ws.length
  · obtain ⟨w, hw⟩ : ∃ w, ws[k]? = some w := ⟨_, List.getElem?_eq_getElem hkn⟩
    have hwu := hr w (List.mem_of_getElem? hw)
    have htk : ws.take (k + 1) = ws.take k ++ [w] := by rw [List.take_add_one, hw]; rfl
    have hdr : ws.drop k = w :: ws.drop (k + 1) := by
      have := (List.getElem?_eq_some_iff.1 hw).2
      rw [List.drop_eq_getElem_cons hkn, this]
    have hl2 := linesT_len (ws.drop (k + 1)) fun z hz => hr z (List.mem_of_mem_drop hz)
    rw [List.length_drop] at hl2
    obtain ⟨hno, hl40, hne0⟩ := ltxt_no hwu
    have hcut := fun H => cutC (a := ltxt w) (c := 10) (r := linesT (ws.drop (k + 1))) hno (by omega) H
    rw [← lines_cons, ← hdr] at hcut
    have hne : (bs (linesT (ws.drop k)) = ⟨#[]⟩) = False := eq_false fun h => by
      have := congrArg ByteArray.size h
      rw [bs_size, hdr, lines_cons, List.length_append, List.length_cons] at this
      exact absurd this (by show ¬ (_ = 0); omega)
    have hpl : (ws.take k).length = k := by rw [List.length_take]; omega
    obtain ⟨l, hG⟩ := wlH_pre H1 (ws.take k)
    have hng : NAt H (wlH H1 (ws.take k)) nb tab := hG ▸ hn.ext
    have hei := either_c hng hwu
    simp (maxSteps := 2000000) (disch := omega) only [hS, c5l0, hne, go_sem, seval, eq_self, if_true, if_false, reduceCtorEq]
    refine Cont.mk (hcut _) ?_
    simp (maxSteps := 2000000) (disch := omega) only [go_sem, seval, eq_self, if_true, if_false, reduceCtorEq]
    refine Cont.mk hei ?_
    simp (maxSteps := 2000000) (disch := omega) only [go_sem, seval, eq_self, if_true, if_false, reduceCtorEq]
    clear hG hng hei
    generalize ws.take k = pr at *
    cases pr with
    | nil =>
      simp (maxSteps := 2000000) (disch := omega) only [wlA_n, wlH_n, go_sem, seval, eq_self, if_true, if_false, reduceCtorEq]
      refine Nxt.mk (k + 1) (by omega) (by
        show Wk _ _ _ _ (wlH H1 (ws.take (k + 1)))
        rw [htk]
        exact Wk.slots (by rw [hS, htk]; exact WkL.tail 8 _ rfl (by simp only [List.take_succ_cons, List.take_zero]; repeat' first | exact WkL.nil | refine WkL.cons (Wk1.rfl _) ?_ | refine WkL.cons Wk1.esl ?_ | refine WkL.cons (Wk1.gsl _ _ _) ?_ | refine WkL.cons (Wk1.any _) ?_))) (by omega)
    | cons p0 l0 =>
      have gr : (H1 ++ [ABlk.row 44 1 (l0.length + 1)])[H1.length]? = some (.row 44 1 (l0.length + 1)) := by rw [List.getElem?_append_right (by simp)]; simp
      have hle : l0.length < 2000 := by rw [List.length_cons] at hpl; omega
      have st : ∀ X, (H1 ++ [ABlk.row 44 1 (l0.length + 1)]).set H1.length X = H1 ++ [X] := fun X => by rw [List.set_append_right _ _ (by omega)]; simp
      simp (maxSteps := 2000000) (disch := omega) only [wlA_c, wlH_c, gr, List.length_cons, List.length_map, st, go_sem, seval, eq_self, if_true, if_false, reduceCtorEq]
      rw [show l0.map ud ++ [ud w] = (l0 ++ [w]).map ud from by simp, show l0.length + 1 + 1 = (l0 ++ [w]).length + 1 by simp]
      refine Nxt.mk (k + 1) (by omega) (by
        show Wk _ _ _ _ (wlH H1 (ws.take (k + 1)))
        rw [htk]
        exact Wk.slots (by rw [hS, htk]; exact WkL.tail 8 _ rfl (by simp only [List.take_succ_cons, List.take_zero]; repeat' first | exact WkL.nil | refine WkL.cons (Wk1.rfl _) ?_ | refine WkL.cons Wk1.esl ?_ | refine WkL.cons (Wk1.gsl _ _ _) ?_ | refine WkL.cons (Wk1.any _) ?_))) (by omega)
  · have e8 : k = ws.length := by omega
    subst e8
    have ht : ws.take ws.length = ws := List.take_of_length_le (Nat.le_refl _)
    have hd : linesT (ws.drop ws.length) = [] := by rw [List.drop_of_length_le (Nat.le_refl _)]; rfl
    simp (maxSteps := 2000000) (disch := omega) only [hS, c5l0, ht, hd, go_sem, seval, eq_self, if_true, if_false, reduceCtorEq]
    exact Ret.pre (.tup [.d (.sl (ws.map ud)), iv 0, iv 0]) H (hpr.trans (wlH_pre _ _)) (Nat.le_refl _) hcl (.tup rfl fun i c c' h1 h2 => by
      match i, h1, h2 with
      | 0, h1, h2 => cases h1; cases h2; exact wl_wk _ _
      | 1, h1, h2 => cases h1; cases h2; exact .rfl _
      | 2, h1, h2 => cases h1; cases h2; exact .rfl _
      | i + 3, h1, h2 => cases h1) (by simp [refs, refs.refsL]) ⟨rfl, rfl⟩
end Go.Proofs.YtmgmoamcbnkbfaaGreatDoor
