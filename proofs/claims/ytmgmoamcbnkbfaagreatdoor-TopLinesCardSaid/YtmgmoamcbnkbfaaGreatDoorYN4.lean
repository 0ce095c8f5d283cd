/- asm.named makes the names. -/
import Derived.Test.YtmgmoamcbnkbfaaGreatDoorYN2
set_option linter.unusedVariables false
set_option linter.unusedSimpArgs false
set_option linter.unusedSectionVars false
namespace Go.Proofs.YtmgmoamcbnkbfaaGreatDoor
set_option linter.unusedSimpArgs false
set_option linter.unusedVariables false
set_option maxRecDepth 20000
set_option maxHeartbeats 2000000
open Go.RowKit

def regN : List (List UInt8) := [[77, 79, 86], [76, 83, 76], [65, 83, 82], [82, 79, 82], [65, 78, 68], [65, 78, 78], [73, 79, 82], [88, 79, 82], [65, 68, 68], [83, 85, 66], [77, 85, 76], [68, 73, 86]]
def memN : List (List UInt8) := [[76, 68, 82], [83, 84, 82], [76, 68, 66], [83, 84, 66]]
def jmpN : List (List UInt8) := [[77, 73], [69, 81], [67, 83], [86, 83], [76, 83], [76, 84], [76, 69], [84], [80, 76], [78, 69], [67, 67], [86, 67], [72, 73], [71, 69], [71, 84], [70]]
def mrkN : List (List UInt8) := [[], [39], [34], [39, 34]]
abbrev strD (l : List (List UInt8)) : List (List Dat) := l.map fun x => [.v (.string (bs x))]
theorem strD_len (l : List (List UInt8)) : (strD l).length = l.length := List.length_map ..
theorem strD_get {l : List (List UInt8)} {k : Nat} (h : k < l.length) : (strD l).getD k [] = [.v (.string (bs (l.getD k [])))] := by
  simp [strD, List.getD_eq_getElem?_getD, List.getElem?_eq_getElem h]
theorem strD_ia {l : List (List UInt8)} {k : Nat} (h : k < l.length) : iaA (.d (.sl (strD l))) (k : Int) 1 = some (.ip [.v (.string (bs (l.getD k [])))]) := by
  have hx := strD_get h
  have hl := strD_len l
  simp only [iaA]
  rw [if_pos ⟨by omega, by omega, by rw [Int.toNat_natCast, hx]; rfl⟩, Int.toNat_natCast, hx]
theorem getD_len {l : List (List UInt8)} {n : Nat} (h : (l.all fun x => decide (x.length ≤ n)) = true) (k : Nat) : (l.getD k []).length ≤ n := by
  by_cases hk : k < l.length
  · rw [List.getD_eq_getElem?_getD, List.getElem?_eq_getElem hk, Option.getD_some]
    exact of_decide_eq_true (List.all_eq_true.1 h _ (List.getElem_mem hk))
  · rw [List.getD_eq_getElem?_getD, List.getElem?_eq_none (by omega)]; exact Nat.zero_le _
/-- What each place of the table is: good, and new. -/
def okAt (k : Nat) (e : Ent) : Bool := decide (0 ≤ e.f ∧ e.f < 16) && decide (0 ≤ e.op ∧ e.op < 16) && decide (e.nm.length ≤ 16) && (mapGet (entS 0 (tab.take k)) (kSh e.f e.op e.u e.v)).isNone && (mapGet (entN 0 (tab.take k)) (.string (bs e.nm))).isNone
theorem tab_ok : (List.range 84).all (fun k => match tab[k]? with | some e => okAt k e | none => false) = true := by kernel_rfl
theorem tab_at {k : Nat} {e : Ent} (h : tab[k]? = some e) : EntOk e ∧ mapGet (entS 0 (tab.take k)) (kSh e.f e.op e.u e.v) = none ∧ mapGet (entN 0 (tab.take k)) (.string (bs e.nm)) = none ∧ tab.take (k + 1) = tab.take k ++ [e] ∧ (tab.take k).length ≤ 1000 := by
  have hk : k < 84 := (List.getElem?_eq_some_iff.1 h).1
  have := List.all_eq_true.1 tab_ok k (List.mem_range.2 hk)
  simp only [h, okAt, Bool.and_eq_true, decide_eq_true_eq, Option.isNone_iff_eq_none] at this
  obtain ⟨⟨⟨⟨h1, h2⟩, h3⟩, h4⟩, h5⟩ := this
  exact ⟨⟨h1, h2, h3⟩, h4, h5, by rw [List.take_add_one, h]; rfl, by rw [List.length_take]; omega⟩
theorem tab_reg : ∀ op : Fin 12, ∀ i : Fin 4, tab[4 * op.1 + i.1]? = some ⟨0, op.1, decide ((i.1 : Int) % 2 = 1), decide (1 < (i.1 : Int)), regN.getD op.1 [] ++ mrkN.getD i.1 []⟩ := by decide +kernel
theorem tab_mem : ∀ i : Fin 4, tab[48 + i.1]? = some ⟨2, 0, decide ((i.1 : Int) % 2 = 1), decide (1 < (i.1 : Int)), memN.getD i.1 []⟩ := by decide +kernel
theorem tab_jmp : ∀ op : Fin 16, tab[52 + 2 * op.1]? = some ⟨3, op.1, false, false, [66, 46] ++ jmpN.getD op.1 []⟩ ∧ tab[53 + 2 * op.1]? = some ⟨3, op.1, false, true, [66, 76, 46] ++ jmpN.getD op.1 []⟩ := by decide +kernel
theorem fld_reg : Lib.fields [77, 79, 86, 32, 76, 83, 76, 32, 65, 83, 82, 32, 82, 79, 82, 32, 65, 78, 68, 32, 65, 78, 78, 32, 73, 79, 82, 32, 88, 79, 82, 32, 65, 68, 68, 32, 83, 85, 66, 32, 77, 85, 76, 32, 68, 73, 86] = regN := by kernel_rfl
theorem fld_jmp : Lib.fields [77, 73, 32, 69, 81, 32, 67, 83, 32, 86, 83, 32, 76, 83, 32, 76, 84, 32, 76, 69, 32, 84, 32, 80, 76, 32, 78, 69, 32, 67, 67, 32, 86, 67, 32, 72, 73, 32, 71, 69, 32, 71, 84, 32, 70] = jmpN := by kernel_rfl
theorem reg_c (H : List ABlk) : ACalls Tryz.prog 28 [sv ⟨#[77, 79, 86, 32, 76, 83, 76, 32, 65, 83, 82, 32, 82, 79, 82, 32, 65, 78, 68, 32, 65, 78, 78, 32, 73, 79, 82, 32, 88, 79, 82, 32, 65, 68, 68, 32, 83, 85, 66, 32, 77, 85, 76, 32, 68, 73, 86]⟩] H fun v H' => v = .d (.sl (strD regN)) ∧ H' = H := by
  have := fields_c ⟨#[77, 79, 86, 32, 76, 83, 76, 32, 65, 83, 82, 32, 82, 79, 82, 32, 65, 78, 68, 32, 65, 78, 78, 32, 73, 79, 82, 32, 88, 79, 82, 32, 65, 68, 68, 32, 83, 85, 66, 32, 77, 85, 76, 32, 68, 73, 86]⟩ (by decide) (fun j b hb => by have := List.mem_of_getElem? hb; clear hb; revert b; decide) (by rw [show Lib.fields _ = regN from fld_reg]; decide) H
  rw [show Lib.fields _ = regN from fld_reg] at this
  exact this
theorem jmp_c (H : List ABlk) : ACalls Tryz.prog 28 [sv ⟨#[77, 73, 32, 69, 81, 32, 67, 83, 32, 86, 83, 32, 76, 83, 32, 76, 84, 32, 76, 69, 32, 84, 32, 80, 76, 32, 78, 69, 32, 67, 67, 32, 86, 67, 32, 72, 73, 32, 71, 69, 32, 71, 84, 32, 70]⟩] H fun v H' => v = .d (.sl (strD jmpN)) ∧ H' = H := by
  have := fields_c ⟨#[77, 73, 32, 69, 81, 32, 67, 83, 32, 86, 83, 32, 76, 83, 32, 76, 84, 32, 76, 69, 32, 84, 32, 80, 76, 32, 78, 69, 32, 67, 67, 32, 86, 67, 32, 72, 73, 32, 71, 69, 32, 71, 84, 32, 70]⟩ (by decide) (fun j b hb => by have := List.mem_of_getElem? hb; clear hb; revert b; decide) (by rw [show Lib.fields _ = jmpN from fld_jmp]; decide) H
  rw [show Lib.fields _ = jmpN from fld_jmp] at this
  exact this
end Go.Proofs.YtmgmoamcbnkbfaaGreatDoor

/- asm.named makes the names: the walk. -/
namespace Go.Proofs.YtmgmoamcbnkbfaaGreatDoor
set_option linter.unusedSimpArgs false
set_option linter.unusedVariables false
set_option maxRecDepth 20000
set_option maxHeartbeats 2000000
open Go.RowKit

/-- So many names are there. -/
structure NK (H G : List ABlk) (nb vb k : Nat) : Prop where
  n : NAt H G nb (tab.take k)
  v : G[vb]? = some (.cells [.ptr nb 0])
  lo : H.length ≤ vb
theorem NK.put {H G : List ABlk} {nb vb k : Nat} (h : NK H G nb vb k) {f op : Int} {u v : Bool} {nm : List UInt8} (he : tab[k]? = some ⟨f, op, u, v, nm⟩) :
    ACalls Tryz.prog 27 [.agg [iv f, iv op, bv u, bv v], sv (bs nm), .ptr vb 0] G fun w G' => w = .tup [] ∧ NK H G' nb vb (k + 1) := by
  obtain ⟨h1, h2, h3, h4, h5⟩ := tab_at he
  refine (putN_c h1 h5 h2 h3 h.v h.lo h.n).mono fun w G' hw => ?_
  obtain ⟨e1, e2, e3⟩ := hw
  exact ⟨e1, ⟨by rw [h4]; exact e2, e3, h.lo⟩⟩
theorem okN : callOk Tryz.prog 27 = true := by kernel_rfl
theorem named_c (H : List ABlk) : ACalls Tryz.prog 13 [] H fun v H' => ∃ nb, v = .ptr nb 0 ∧ NAt H H' nb tab := by
  refine ACalls.enter Tryz.func13 cc13 rr13 fun hcl => ?_
  simp only [Tryz.ntmps13, c13, r13]
  refine W.seq_reg ?_
  simp (maxSteps := 2000000) (disch := omega) only [go_sem, seval, eq_self, if_true, if_false, reduceCtorEq]
  refine W.seq_reg ?_
  simp (maxSteps := 2000000) (disch := omega) only [go_sem, seval, eq_self, if_true, if_false, reduceCtorEq]
  obtain ⟨G0, hG0⟩ : ∃ G0, G0 = H ++ [.map ktS 0 [], .map ktN 0 [], .cells [.esl, .esl, .mp H.length, .mp (H.length + 1)], .cells [.ptr (H.length + 2) 0]] := ⟨_, rfl⟩
  have hk0 : NK H G0 (H.length + 2) (H.length + 3) 0 := by
    have g0 : ∀ k, G0[H.length + k]? = [ABlk.map ktS 0 [], .map ktN 0 [], .cells [.esl, .esl, .mp H.length, .mp (H.length + 1)], .cells [.ptr (H.length + 2) 0]][k]? := fun k => by rw [hG0]; exact hgk _ _ _
    refine ⟨⟨⟨H.length, H.length + 1, .esl, .esl, g0 2, g0 0, g0 1, by omega, by omega, .inl ⟨rfl, rfl, rfl⟩⟩, ?_, by omega⟩, g0 3, by omega⟩
    rw [hG0]; exact pre_app _ _
  rw [← hG0]
  obtain ⟨nb, hnb⟩ : ∃ nb, nb = H.length + 2 := ⟨_, rfl⟩
  obtain ⟨vb, hvb⟩ : ∃ vb, vb = H.length + 3 := ⟨_, rfl⟩
  rw [← hnb, ← hvb] at hk0 ⊢
  refine W.seq_reg ?_
  simp (maxSteps := 2000000) (disch := omega) only [go_sem, seval, eq_self, if_true, if_false, reduceCtorEq]
  have okN' := okN
  refine W.cut (fun s' H' => ∃ G, NK H G nb vb 48 ∧ s' = [.any, .ptr vb 0, .fn 27 [.ptr vb 0]] ++ List.replicate 79 .any ∧ H' = G) (wpA.W ?_) ?_
  · simp (maxSteps := 2000000) (disch := omega) only [go_sem, seval, eq_self, if_true, if_false, reduceCtorEq]
    refine Cont.mk (reg_c _) ?_
    simp (maxSteps := 2000000) (disch := omega) only [strD_len, go_sem, seval, eq_self, if_true, if_false, reduceCtorEq]
    obtain ⟨S, hS⟩ : ∃ S : Nat × List ABlk → List AV, ∀ g, S g = [.any, .ptr vb 0, .fn 27 [.ptr vb 0], .any, .any, .any, .any, .any, .any, .any, .any, .any, .any, .any, .any, .any, .d (.sl (strD regN)), iv 12, iv g.1] ++ List.replicate 63 .any := ⟨_, fun _ => rfl⟩
    refine W.loopG (γ := Nat × List ABlk) (fun g => 12 - g.1) S (fun g => g.2) (fun g => NK H g.2 nb vb (4 * g.1) ∧ g.1 ≤ 12) (0, G0) (Wk.slots (by rw [hS]; exact WkL.tail 19 _ rfl (by simp only [List.take_succ_cons, List.take_zero]; repeat' first | exact WkL.nil | refine WkL.cons (Wk1.rfl _) ?_ | refine WkL.cons Wk1.esl ?_ | refine WkL.cons (Wk1.gsl _ _ _) ?_ | refine WkL.cons (Wk1.any _) ?_))) ⟨hk0, by simp⟩ (fun g hg => ?_)
    obtain ⟨op, G⟩ := g
    obtain ⟨hg, hop⟩ := hg
    simp only at hg hop
    have l12 : regN.length = 12 := rfl
    by_cases hk : op < 12
    · have hx := strD_ia (l := regN) (k := op) hk
      simp (maxSteps := 2000000) (disch := omega) only [hS, c13l3, strD_len, hx, l12, go_sem, seval, eq_self, if_true, if_false, reduceCtorEq]
      obtain ⟨S2, hS2⟩ : ∃ S : Nat × List ABlk → List AV, ∀ g, S g = [.any, .ptr vb 0, .fn 27 [.ptr vb 0], iv op, sv (bs (regN.getD op [])), .any, .any, .any, .any, .any, .any, .any, .any, .any, .any, .any, .d (.sl (strD regN)), iv 12, iv op, .any, .any, .any, .any, .d (.sl (strD mrkN)), iv 4, iv g.1] ++ List.replicate 56 .any := ⟨_, fun _ => rfl⟩
      refine W.loopG (γ := Nat × List ABlk) (fun g => 4 - g.1) S2 (fun g => g.2) (fun g => NK H g.2 nb vb (4 * op + g.1) ∧ g.1 ≤ 4) (0, G) (Wk.slots (by rw [hS2]; exact WkL.tail 26 _ rfl (by simp only [List.take_succ_cons, List.take_zero]; repeat' first | exact WkL.nil | refine WkL.cons (Wk1.rfl _) ?_ | refine WkL.cons Wk1.esl ?_ | refine WkL.cons (Wk1.gsl _ _ _) ?_ | refine WkL.cons (Wk1.any _) ?_))) ⟨hg, by simp⟩ (fun g hg2 => ?_)
      obtain ⟨i, G2⟩ := g
      obtain ⟨hg2, hi4⟩ := hg2
      simp only at hg2 hi4
      have l4 : mrkN.length = 4 := rfl
      by_cases hi : i < 4
      · have hx2 := strD_ia (l := mrkN) (k := i) hi
        have hif := add_ok (a := regN.getD op []) (b := mrkN.getD i []) (by have := getD_len (l := regN) (n := 4) (by decide) op; have := getD_len (l := mrkN) (n := 4) (by decide) i; omega)
        simp (maxSteps := 2000000) (disch := omega) only [hS2, c13l2, strD_len, hx2, l4, okN', bs_app, hif, go_sem, seval, eq_self, if_true, if_false, reduceCtorEq]
        refine Cont.rel (hg2.put (tab_reg ⟨op, hk⟩ ⟨i, hi⟩)) ?_
        rintro w G3 ⟨rfl, hg3⟩
        simp (maxSteps := 2000000) (disch := omega) only [go_sem, seval, eq_self, if_true, if_false, reduceCtorEq]
        refine Nxt.mk (i + 1, G3) (by simp only; omega) (Wk.slots (by rw [hS2]; exact WkL.tail 26 _ rfl (by simp only [List.take_succ_cons, List.take_zero]; repeat' first | exact WkL.nil | refine WkL.cons (Wk1.rfl _) ?_ | refine WkL.cons Wk1.esl ?_ | refine WkL.cons (Wk1.gsl _ _ _) ?_ | refine WkL.cons (Wk1.any _) ?_))) ⟨hg3, by simp only; omega⟩
      · have e4 : i = 4 := by omega
        subst e4
        simp (maxSteps := 2000000) (disch := omega) only [hS2, c13l2, strD_len, l4, go_sem, seval, eq_self, if_true, if_false, reduceCtorEq]
        refine Nxt.mk (op + 1, G2) (by simp only; omega) (Wk.slots (by rw [hS]; exact WkL.tail 19 _ rfl (by simp only [List.take_succ_cons, List.take_zero]; repeat' first | exact WkL.nil | refine WkL.cons (Wk1.rfl _) ?_ | refine WkL.cons Wk1.esl ?_ | refine WkL.cons (Wk1.gsl _ _ _) ?_ | refine WkL.cons (Wk1.any _) ?_))) ⟨by simp only; exact hg2, by simp only; omega⟩
    · have e12 : op = 12 := by omega
      subst e12
      simp (maxSteps := 2000000) (disch := omega) only [hS, c13l3, strD_len, l12, go_sem, seval, eq_self, if_true, if_false, reduceCtorEq]
      exact ⟨_, _, Wk.slots (by (try simp only [List.replicate, List.cons_append, List.nil_append]); repeat' first | exact WkL.nil | refine WkL.cons (Wk1.rfl _) ?_ | refine WkL.cons Wk1.esl ?_ | refine WkL.cons (Wk1.gsl _ _ _) ?_ | refine WkL.cons (Wk1.any _) ?_), G, hg, rfl, rfl⟩
  rintro s' H' ⟨G, hg48, rfl, rfl⟩
  refine W.cut (fun s' H' => ∃ G, NK H G nb vb 52 ∧ s' = [.any, .ptr vb 0, .fn 27 [.ptr vb 0]] ++ List.replicate 79 .any ∧ H' = G) (wpA.W ?_) ?_
  · have l4 : memN.length = 4 := rfl
    simp (maxSteps := 2000000) (disch := omega) only [go_sem, seval, eq_self, if_true, if_false, reduceCtorEq]
    obtain ⟨S, hS⟩ : ∃ S : Nat × List ABlk → List AV, ∀ g, S g = [.any, .ptr vb 0, .fn 27 [.ptr vb 0], .any, .any, .any, .any, .any, .any, .any, .any, .any, .any, .any, .any, .any, .any, .any, .any, .any, .any, .any, .any, .any, .any, .any, .any, .any, .any, .any, .any, .any, .any, .any, .any, .any, .any, .any, .any, .any, .any, .any, .any, .any, .d (.sl (strD memN)), iv 4, iv g.1] ++ List.replicate 35 .any := ⟨_, fun _ => rfl⟩
    refine W.loopG (γ := Nat × List ABlk) (fun g => 4 - g.1) S (fun g => g.2) (fun g => NK H g.2 nb vb (48 + g.1) ∧ g.1 ≤ 4) (0, H') (Wk.slots (by rw [hS]; exact WkL.tail 47 _ rfl (by simp only [List.take_succ_cons, List.take_zero]; repeat' first | exact WkL.nil | refine WkL.cons (Wk1.rfl _) ?_ | refine WkL.cons Wk1.esl ?_ | refine WkL.cons (Wk1.gsl _ _ _) ?_ | refine WkL.cons (Wk1.any _) ?_))) ⟨hg48, by simp⟩ (fun g hg => ?_)
    obtain ⟨i, G2⟩ := g
    obtain ⟨hg2, hi4⟩ := hg
    simp only at hg2 hi4
    by_cases hi : i < 4
    · have hx2 := strD_ia (l := memN) (k := i) hi
      simp (maxSteps := 2000000) (disch := omega) only [hS, c13l1, strD_len, hx2, l4, okN', go_sem, seval, eq_self, if_true, if_false, reduceCtorEq]
      refine Cont.rel (hg2.put (tab_mem ⟨i, hi⟩)) ?_
      rintro w G3 ⟨rfl, hg3⟩
      simp (maxSteps := 2000000) (disch := omega) only [go_sem, seval, eq_self, if_true, if_false, reduceCtorEq]
      refine Nxt.mk (i + 1, G3) (by simp only; omega) (Wk.slots (by rw [hS]; exact WkL.tail 47 _ rfl (by simp only [List.take_succ_cons, List.take_zero]; repeat' first | exact WkL.nil | refine WkL.cons (Wk1.rfl _) ?_ | refine WkL.cons Wk1.esl ?_ | refine WkL.cons (Wk1.gsl _ _ _) ?_ | refine WkL.cons (Wk1.any _) ?_))) ⟨hg3, by simp only; omega⟩
    · have e4 : i = 4 := by omega
      subst e4
      simp (maxSteps := 2000000) (disch := omega) only [hS, c13l1, strD_len, l4, go_sem, seval, eq_self, if_true, if_false, reduceCtorEq]
      exact ⟨_, _, Wk.slots (by (try simp only [List.replicate, List.cons_append, List.nil_append]); repeat' first | exact WkL.nil | refine WkL.cons (Wk1.rfl _) ?_ | refine WkL.cons Wk1.esl ?_ | refine WkL.cons (Wk1.gsl _ _ _) ?_ | refine WkL.cons (Wk1.any _) ?_), G2, hg2, rfl, rfl⟩
  clear hg48
  rintro s' H' ⟨G, hg52, rfl, rfl⟩
  refine W.cut (fun s' H' => ∃ G, NK H G nb vb 84 ∧ s' = [.any, .ptr vb 0, .fn 27 [.ptr vb 0]] ++ List.replicate 79 .any ∧ H' = G) (wpA.W ?_) ?_
  · have l16 : jmpN.length = 16 := rfl
    simp (maxSteps := 2000000) (disch := omega) only [go_sem, seval, eq_self, if_true, if_false, reduceCtorEq]
    refine Cont.mk (jmp_c _) ?_
    simp (maxSteps := 2000000) (disch := omega) only [strD_len, l16, go_sem, seval, eq_self, if_true, if_false, reduceCtorEq]
    obtain ⟨S, hS⟩ : ∃ S : Nat × List ABlk → List AV, ∀ g, S g = [.any, .ptr vb 0, .fn 27 [.ptr vb 0], .any, .any, .any, .any, .any, .any, .any, .any, .any, .any, .any, .any, .any, .any, .any, .any, .any, .any, .any, .any, .any, .any, .any, .any, .any, .any, .any, .any, .any, .any, .any, .any, .any, .any, .any, .any, .any, .any, .any, .any, .any, .any, .any, .any, .any, .any, .any, .any, .any, .any, .any, .any, .any, .any, .any, .any, .any, .any, .d (.sl (strD jmpN)), iv 16, iv g.1] ++ List.replicate 18 .any := ⟨_, fun _ => rfl⟩
    refine W.loopG (γ := Nat × List ABlk) (fun g => 16 - g.1) S (fun g => g.2) (fun g => NK H g.2 nb vb (52 + 2 * g.1) ∧ g.1 ≤ 16) (0, H') (Wk.slots (by rw [hS]; exact WkL.tail 64 _ rfl (by simp only [List.take_succ_cons, List.take_zero]; repeat' first | exact WkL.nil | refine WkL.cons (Wk1.rfl _) ?_ | refine WkL.cons Wk1.esl ?_ | refine WkL.cons (Wk1.gsl _ _ _) ?_ | refine WkL.cons (Wk1.any _) ?_))) ⟨hg52, by simp⟩ (fun g hg => ?_)
    obtain ⟨op, G2⟩ := g
    obtain ⟨hg2, hop⟩ := hg
    simp only at hg2 hop
    by_cases hk : op < 16
    · have hx := strD_ia (l := jmpN) (k := op) hk
      obtain ⟨t1, t2⟩ := tab_jmp ⟨op, hk⟩
      simp only at t1 t2
      have hl2 := getD_len (l := jmpN) (n := 4) (by decide) op
      have hif1 := add_ok (a := [66, 46]) (b := jmpN.getD op []) (by simp only [List.length_cons, List.length_nil]; omega)
      have hif2 := add_ok (a := [66, 76, 46]) (b := jmpN.getD op []) (by simp only [List.length_cons, List.length_nil]; omega)
      have ha1 : (⟨#[66, 46]⟩ : ByteArray) ++ bs (jmpN.getD op []) = bs ([66, 46] ++ jmpN.getD op []) := bs_app [66, 46] _
      have ha2 : (⟨#[66, 76, 46]⟩ : ByteArray) ++ bs (jmpN.getD op []) = bs ([66, 76, 46] ++ jmpN.getD op []) := bs_app [66, 76, 46] _
      simp (maxSteps := 2000000) (disch := omega) only [hS, c13l0, strD_len, hx, l16, okN', ha1, hif1, go_sem, seval, eq_self, if_true, if_false, reduceCtorEq]
      refine Cont.rel (hg2.put t1) ?_
      rintro w G3 ⟨rfl, hg3⟩
      rw [show 52 + 2 * op + 1 = 53 + 2 * op by omega] at hg3
      simp (maxSteps := 2000000) (disch := omega) only [okN', ha2, hif2, go_sem, seval, eq_self, if_true, if_false, reduceCtorEq]
      refine Cont.rel (hg3.put t2) ?_
      rintro w G4 ⟨rfl, hg4⟩
      simp (maxSteps := 2000000) (disch := omega) only [go_sem, seval, eq_self, if_true, if_false, reduceCtorEq]
      refine Nxt.mk (op + 1, G4) (by simp only; omega) (Wk.slots (by rw [hS]; exact WkL.tail 64 _ rfl (by simp only [List.take_succ_cons, List.take_zero]; repeat' first | exact WkL.nil | refine WkL.cons (Wk1.rfl _) ?_ | refine WkL.cons Wk1.esl ?_ | refine WkL.cons (Wk1.gsl _ _ _) ?_ | refine WkL.cons (Wk1.any _) ?_))) ⟨by rw [show 52 + 2 * (op + 1) = 53 + 2 * op + 1 by omega]; exact hg4, by simp only; omega⟩
    · have e16 : op = 16 := by omega
      subst e16
      simp (maxSteps := 2000000) (disch := omega) only [hS, c13l0, strD_len, l16, go_sem, seval, eq_self, if_true, if_false, reduceCtorEq]
      exact ⟨_, _, Wk.slots (by (try simp only [List.replicate, List.cons_append, List.nil_append]); repeat' first | exact WkL.nil | refine WkL.cons (Wk1.rfl _) ?_ | refine WkL.cons Wk1.esl ?_ | refine WkL.cons (Wk1.gsl _ _ _) ?_ | refine WkL.cons (Wk1.any _) ?_), G2, hg2, rfl, rfl⟩
  clear hg52
  rintro s' H' ⟨G, hg84, rfl, rfl⟩
  have hv84 := hg84.v
  refine wpA.W ?_
  simp (maxSteps := 2000000) (disch := omega) only [hv84, go_sem, seval, eq_self, if_true, if_false, reduceCtorEq]
  exact Ret.keep ⟨nb, rfl, by have := hg84.n; rwa [show tab.take 84 = tab from by decide +kernel] at this⟩
end Go.Proofs.YtmgmoamcbnkbfaaGreatDoor
