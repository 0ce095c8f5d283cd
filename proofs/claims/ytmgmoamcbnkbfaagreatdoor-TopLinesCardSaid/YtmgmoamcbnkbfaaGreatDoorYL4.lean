/- A word out of its line: the walk. -/
import Derived.Test.YtmgmoamcbnkbfaaGreatDoorYL3
set_option linter.unusedVariables false
set_option linter.unusedSimpArgs false
set_option linter.unusedSectionVars false
namespace Go.Proofs.YtmgmoamcbnkbfaaGreatDoor
set_option linter.unusedSimpArgs false
set_option linter.unusedVariables false
set_option maxRecDepth 20000
set_option maxHeartbeats 4000000
open Go.RowKit

theorem cutC {a r : List UInt8} {c : UInt8} (h : c ∉ a) (hs : a.length + r.length ≤ 1000000) (H : List ABlk) : ACalls Tryz.prog 14 [sv (bs (a ++ c :: r)), sv ⟨#[c]⟩] H fun v H' => v = .tup [sv (bs a), sv (bs r), bv true] ∧ H' = H := by
  have := cut_c (bs (a ++ c :: r)) ⟨#[c]⟩ (by rw [bs_size, List.length_append, List.length_cons]; omega) H
  have e : Lib.cut (bs (a ++ c :: r)).data.toList [c] = (a, r, true) := cut_hit c a r h
  rw [show (⟨#[c]⟩ : ByteArray).data.toList = [c] from rfl, e] at this
  exact this
theorem splitC {l : List (List UInt8)} (h0 : l ≠ []) (h : ∀ x ∈ l, (44 : UInt8) ∉ x) (h1 : l.length ≤ 1000) (hs : (joinS l).length ≤ 1000000) (H : List ABlk) :
    ACalls Tryz.prog 53 [sv (bs (joinS l)), sv ⟨#[44, 32]⟩] H fun v H' => v = .d (.sl (l.map fun x => [.v (.string (bs x))])) ∧ H' = H := by
  obtain ⟨e1, e2⟩ := splitB_join l h0 h
  have := split_c (bs (joinS l)) ⟨#[44, 32]⟩ (by rw [bs_size]; omega) (by decide) (by rw [e2]; unfold maxLen; omega) H
  rw [e1, List.map_map] at this
  exact this
abbrev opD (l : List (Int × Bool)) : List (List Dat) := l.map fun p => [.v (.string (bs (opT p)))]
theorem opD_ia {l : List (Int × Bool)} {k : Nat} {p : Int × Bool} (h : l[k]? = some p) : iaA (.d (.sl (opD l))) (k : Int) 1 = some (.ip [.v (.string (bs (opT p)))]) := by
  have hk : k < l.length := (List.getElem?_eq_some_iff.1 h).1
  have hx : (opD l).getD k [] = [.v (.string (bs (opT p)))] := by rw [List.getD_eq_getElem?_getD, List.getElem?_map, h]; rfl
  simp only [iaA]
  rw [if_pos ⟨by omega, by rw [List.length_map]; omega, by rw [Int.toNat_natCast, hx]; rfl⟩, Int.toNat_natCast, hx]
theorem sh_ia {k : Nat} {e : Ent} {b : Nat} (h : tab[k]? = some e) : iaA (.gsl b 4 (tab.map shD)) (k : Int) 4 = some (.ip (shD e)) := by
  have hk : k < tab.length := (List.getElem?_eq_some_iff.1 h).1
  have hx : (tab.map shD).getD k [] = shD e := by rw [List.getD_eq_getElem?_getD, List.getElem?_map, h]; rfl
  simp only [iaA]
  rw [if_pos ⟨by omega, by rw [List.length_map]; omega, trivial⟩, Int.toNat_natCast, hx]
/-- The operands read so far. -/
abbrev vlD (l : List (Int × Bool)) : List (List Dat) := l.map fun p => [.v (.int .i64 p.1)]
def vlA (b : Nat) : List (Int × Bool) → AV
  | [] => .esl
  | p :: l => .gsl b 1 (vlD (p :: l))
def vlH (G : List ABlk) (y : ABlk) : List (Int × Bool) → List ABlk
  | [] => G ++ [y]
  | p :: l => G ++ [y, .row 3 1 (l.length + 1)]
def lastB (l : List (Int × Bool)) : Bool := (l.getLast?.map (·.2)).getD false
theorem lastB_app (l : List (Int × Bool)) (p : Int × Bool) : lastB (l ++ [p]) = p.2 := by simp [lastB]
theorem lastB_1 (p : Int × Bool) : lastB [p] = p.2 := rfl
theorem lastB_3 (p q r : Int × Bool) : lastB [p, q, r] = r.2 := rfl
theorem g3_0 (b : Nat) (x y z : Dat) : iaA (.gsl b 1 [[x], [y], [z]]) 0 1 = some (.ip [x]) := rfl
theorem g3_1 (b : Nat) (x y z : Dat) : iaA (.gsl b 1 [[x], [y], [z]]) 1 1 = some (.ip [y]) := rfl
theorem g3_2 (b : Nat) (x y z : Dat) : iaA (.gsl b 1 [[x], [y], [z]]) 2 1 = some (.ip [z]) := rfl
theorem g1_0 (b : Nat) (x : Dat) : iaA (.gsl b 1 [[x]]) 0 1 = some (.ip [x]) := rfl
theorem vlA_n (b : Nat) : vlA b [] = .esl := rfl
theorem vlH_n (G : List ABlk) (y : ABlk) : vlH G y [] = G ++ [y] := rfl
theorem vlA_c (b : Nat) (p : Int × Bool) (l : List (Int × Bool)) : vlA b (p :: l) = .gsl b 1 ([.v (.int .i64 p.1)] :: vlD l) := rfl
theorem vlH_c (G : List ABlk) (y : ABlk) (p : Int × Bool) (l : List (Int × Bool)) : vlH G y (p :: l) = G ++ [y, .row 3 1 (l.length + 1)] := rfl
theorem lword_c {H0 H : List ABlk} {nb : Nat} (hn : NAt H0 H nb tab) {w : Int} (hw : U32 w) (he : decE w = 0) : ACalls Tryz.prog 31 [.ptr nb 0, sv (bs (txtF (decX w)))] H fun v H' => v = .tup [wv w, iv 0] ∧ H' = H := by
  have hline := fun l => line1_c (hn.ext (l := l)) hw he
  obtain ⟨hx, hee, hdc⟩ := dec_spec hw
  rw [he] at hdc hee
  rcases hee with ⟨-, hgd, henc⟩ | h
  rotate_left
  · cases h
  clear hdc
  generalize decX w = x at *
  obtain ⟨m1, m2, b1, b2, g0, g1, g2⟩ := hn.all
  obtain ⟨e, hte, hsh⟩ := ent_at hx hgd
  obtain ⟨l1, l2, hno, -⟩ := tab_lks hte
  have hia := sh_ia (b := b2) hte
  obtain ⟨eo, -⟩ := tab_at hte
  have fN := eo.fitN
  have hnm : nmF x = e.nm := by rw [nmF, List.getD_eq_getElem?_getD, hte]; rfl
  have hlen := txt_len hx hnm eo
  obtain ⟨ok1, ok2, ok3⟩ := opsV_ok hx
  have htx : txtF x = e.nm ++ 32 :: joinS ((opsV x).map opT) := by rw [txtF, hnm, opsF_V]
  have hq : (40 < ((txtF x).toArray.size : Int)) = False := eq_false (by rw [List.size_toArray]; omega)
  have hl2 : e.nm.length + (joinS ((opsV x).map opT)).length ≤ 40 := by rw [htx, List.length_append, List.length_cons] at hlen; omega
  have hcut := fun H => cutC (a := e.nm) (c := 32) (r := joinS ((opsV x).map opT)) (fun h => (hno _ h).1 rfl) (by omega) H
  have hspl := fun H => splitC (l := (opsV x).map opT) (by simpa using ok2) (fun y hy => by
    obtain ⟨p, -, rfl⟩ := List.mem_map.1 hy
    exact opT_no p (by decide) (by decide) (by decide)) (by rw [List.length_map]; omega) (by omega) H
  rw [← htx] at hcut
  rw [List.map_map] at hspl
  have hspl : ∀ H, ACalls Tryz.prog _ _ H _ := hspl
  have kq : keyOf (sv (bs e.nm)) = some (.string (bs e.nm)) := rfl
  have mq : mapOf H ktN (.mp m2) = some (entN 0 tab) := by simp [mapOf, g2]
  have gx : ∀ y : ABlk, (H ++ [y])[nb]? = H[nb]? := fun y => List.getElem?_append_left (List.getElem?_eq_some_iff.1 g0).1
  refine ACalls.into Tryz.func31 cc31 rr31 fun hcl => ?_
  simp (maxSteps := 2000000) (disch := omega) only [Tryz.ntmps31, c31, r31, hq, go_sem, seval, eq_self, if_true, if_false, reduceCtorEq]
  refine Cont.mk (hcut _) ?_
  simp (maxSteps := 2000000) (disch := omega) only [g0, g2, kq, mq, fN, l2, hia, go_sem, seval, eq_self, if_true, if_false, reduceCtorEq]
  refine Cont.mk (hspl _) ?_
  simp (maxSteps := 2000000) (disch := omega) only [go_sem, seval, eq_self, if_true, if_false, reduceCtorEq]
  obtain ⟨vs, hvs⟩ : ∃ vs, vs = opsV x := ⟨_, rfl⟩
  rw [← hvs] at ok1 ok2 ok3
  have ev : (List.map ((fun y : List UInt8 => [Dat.v (.string (bs y))]) ∘ opT) (opsV x)) = opD vs := by rw [hvs]; rfl
  obtain ⟨tx, htx2⟩ : ∃ tx, tx = bs (txtF x) := ⟨_, rfl⟩
  obtain ⟨y, hy⟩ : ∃ y, y = ABlk.cells [iv e.f, iv e.op, bv e.u, bv e.v] := ⟨_, rfl⟩
  obtain ⟨S, hS⟩ : ∃ S : Nat → List AV, ∀ k, S k = [.ptr nb 0, sv tx, .any, .any, .d (.v (.int .u32 0)), iv 0, .any, .any, .any, .any, .any, .ptr H.length 0, vlA (H.length + 1) (vs.take k), bv (lastB (vs.take k)), .any, .any, .any, .any, .any, .any, .any, .any, .any, .any, .any, .any, .any, .any, .any, .any, .any, .any, .any, .any, .any, .any, .any, .any, .any, .any, .any, .any, .any, .any, .any, .any, .any, .any, .any, .any, .any, .any, .d (.sl (opD vs)), iv vs.length, iv k] ++ List.replicate 105 .any := ⟨_, fun _ => rfl⟩
  rw [← hy, ← htx2, ev]
  rw [← hvs]
  refine W.loopG (γ := Nat) (fun k => vs.length - k) S (fun k => vlH H y (vs.take k)) (fun k => k ≤ vs.length) 0 (Wk.slots (by rw [hS]; exact WkL.tail 55 _ rfl (by simp only [List.take_succ_cons, List.take_zero]; repeat' first | exact WkL.nil | refine WkL.cons (Wk1.rfl _) ?_ | refine WkL.cons Wk1.esl ?_ | refine WkL.cons (Wk1.gsl _ _ _) ?_ | refine WkL.cons (Wk1.any _) ?_))) (by simp) (fun k hk => ?_)
  by_cases hkn : k < vs.length
  · obtain ⟨p, hp⟩ : ∃ p, vs[k]? = some p := ⟨_, List.getElem?_eq_getElem hkn⟩
    have hpa := opD_ia hp
    have hop := operand_c p (ok1 p (List.mem_of_getElem? hp))
    have htk : vs.take (k + 1) = vs.take k ++ [p] := by rw [List.take_add_one, hp]; rfl
    have hpl : (vs.take k).length = k := by rw [List.length_take]; omega
    simp (maxSteps := 2000000) (disch := omega) only [hS, c31l0, hpa, go_sem, seval, eq_self, if_true, if_false, reduceCtorEq]
    refine Cont.mk (hop _) ?_
    simp (maxSteps := 2000000) (disch := omega) only [go_sem, seval, eq_self, if_true, if_false, reduceCtorEq]
    generalize vs.take k = pr at *
    have lpr : lastB (pr ++ [p]) = p.2 := lastB_app pr p
    cases pr with
    | nil =>
      simp (maxSteps := 2000000) (disch := omega) only [vlA_n, vlH_n, List.length_append, go_sem, seval, eq_self, if_true, if_false, reduceCtorEq]
      refine Nxt.mk (k + 1) (by omega) (by
        show Wk _ _ _ _ (vlH H y (vs.take (k + 1)))
        rw [htk]
        exact Wk.slots (by rw [hS, htk]; exact WkL.tail 55 _ rfl (by simp only [List.take_succ_cons, List.take_zero]; repeat' first | exact WkL.nil | refine WkL.cons (Wk1.rfl _) ?_ | refine WkL.cons Wk1.esl ?_ | refine WkL.cons (Wk1.gsl _ _ _) ?_ | refine WkL.cons (Wk1.any _) ?_))) (by omega)
    | cons p0 l0 =>
      have gr : (H ++ [y, ABlk.row 3 1 (l0.length + 1)])[H.length + 1]? = some (.row 3 1 (l0.length + 1)) := by rw [List.getElem?_append_right (by simp)]; simp
      have hle : l0.length < 3 := by rw [List.length_cons] at hpl; omega
      have st : ∀ X, (H ++ [y, ABlk.row 3 1 (l0.length + 1)]).set (H.length + 1) X = H ++ [y, X] := fun X => by rw [List.set_append_right _ _ (by omega)]; simp
      simp (maxSteps := 2000000) (disch := omega) only [vlA_c, vlH_c, gr, List.length_cons, st, go_sem, seval, eq_self, if_true, if_false, reduceCtorEq]
      rw [show vlD l0 ++ [[Dat.v (.int .i64 p.1)]] = vlD (l0 ++ [p]) from by simp [vlD], show l0.length + 1 + 1 = (l0 ++ [p]).length + 1 by simp]
      refine Nxt.mk (k + 1) (by omega) (by
        show Wk _ _ _ _ (vlH H y (vs.take (k + 1)))
        rw [htk]
        exact Wk.slots (by rw [hS, htk, lpr]; exact WkL.tail 55 _ rfl (by simp only [List.take_succ_cons, List.take_zero]; repeat' first | exact WkL.nil | refine WkL.cons (Wk1.rfl _) ?_ | refine WkL.cons Wk1.esl ?_ | refine WkL.cons (Wk1.gsl _ _ _) ?_ | refine WkL.cons (Wk1.any _) ?_))) (by omega)
  · have e8 : k = vs.length := by omega
    subst e8
    have ht : vs.take vs.length = vs := List.take_of_length_le (by omega)
    have hline1 := hline [y, .row 3 1 1]
    have hline3 := hline [y, .row 3 1 3]
    have ggx : ∀ l : List ABlk, (H ++ l)[nb]? = H[nb]? := fun l => List.getElem?_append_left (List.getElem?_eq_some_iff.1 g0).1
    simp (maxSteps := 2000000) (disch := omega) only [hS, c31l0, ht, go_sem, seval, eq_self, if_true, if_false, reduceCtorEq]
    clear ht hS
    obtain ⟨f, u, v, a, b, c, op, im⟩ := x
    have hf := hx.f
    have hk := gd_fld hgd hf
    simp only at hf
    have hs3 : ∀ y r z X : ABlk, (H ++ [y, r, z]).set (H.length + 2) X = H ++ [y, r, X] := fun y r z X => by rw [List.set_append_right _ _ (by omega)]; simp
    have fr : ∀ y r z X : ABlk, FrOk [H.length + 2] [] (H ++ [y, r, z]) (H ++ [y, r, X]) (H ++ [y, r, X]) := fun y r z X => by rw [← hs3 y r z X]; exact .set (by simp)
    have dg1 : ∀ (r z : ABlk), z ≠ .dead → ∀ (y : ABlk), (H ++ [y, r, z])[H.length + 2]? ≠ some .dead := fun r z hz y => by
      rw [List.getElem?_append_right (by omega)]; simpa using hz
    by_cases f0 : f = 0
    · have e0 : opsV ⟨f, u, v, a, b, c, op, im⟩ = [(a, true), (b, true), (c, true)] := by simp [opsV, f0]
      have e1 : shF ⟨f, u, v, a, b, c, op, im⟩ = (0, op, u, v) := by simp [shF, f0]
      have ei : im = 0 := by omega
      rw [e0] at hvs
      rw [e1] at hsh
      subst f0 ei hvs hy
      obtain ⟨ef, eop, eu, evv⟩ : e.f = 0 ∧ e.op = op ∧ e.u = u ∧ e.v = v := by simpa using hsh
      rw [ef, eop, eu, evv]
      simp (maxSteps := 2000000) (disch := omega) only [vlA, vlH, vlD, lastB_3, go_sem, seval, eq_self, if_true, if_false, reduceCtorEq]
      refine W.dregD [([], []), ([], []), ([], []), ([], [H.length + 2]), ([], [H.length + 2]), ([], [H.length + 2]), ([], [H.length + 2, H.length + 2]), ([], [H.length + 2, H.length + 2]), ([], []), ([H.length + 2], []), ([], []), ([H.length + 2], []), ([], []), ([H.length + 2], [])] follows (by decide +kernel) rfl rfl (fun z hz b' hb' => ?_) ?_
      · simp only [List.mem_cons, List.not_mem_nil, or_false] at hz
        rcases hz with rfl | rfl | rfl | rfl | rfl | rfl | rfl | rfl | rfl | rfl | rfl | rfl | rfl | rfl <;> simp at hb' <;> subst hb' <;> exact ⟨by simp, dg1 _ _ (by simp) _⟩
      repeat (rw [DC_p]; simp (maxSteps := 2000000) (disch := omega) only [kill_c, hs3, g3_0, g3_1, g3_2, go_sem, seval, eq_self, if_true, if_false, reduceCtorEq])
      refine WStep.ev (by simp) (by simp) ?_
      simp (maxSteps := 2000000) (disch := omega) only [go_sem, seval, eq_self, if_true, if_false, reduceCtorEq]
      refine ⟨fr _ _ _ _, ?_⟩
      repeat (rw [DC_p]; simp (maxSteps := 2000000) (disch := omega) only [kill_c, hs3, g3_0, g3_1, g3_2, go_sem, seval, eq_self, if_true, if_false, reduceCtorEq])
      refine WStep.ev (by simp) (by simp) ?_
      simp (maxSteps := 2000000) (disch := omega) only [go_sem, seval, eq_self, if_true, if_false, reduceCtorEq]
      refine ⟨fr _ _ _ _, ?_⟩
      repeat (rw [DC_p]; simp (maxSteps := 2000000) (disch := omega) only [kill_c, hs3, g3_0, g3_1, g3_2, go_sem, seval, eq_self, if_true, if_false, reduceCtorEq])
      refine WStep.ev (by simp) (by simp) ?_
      simp (maxSteps := 2000000) (disch := omega) only [go_sem, seval, eq_self, if_true, if_false, reduceCtorEq]
      refine ⟨fr _ _ _ _, ?_⟩
      simp (maxSteps := 2000000) (disch := omega) only [g3_2, hs3, go_sem, seval, eq_self, if_true, if_false, reduceCtorEq]
      refine Cont.mk (henc _) ?_
      simp (maxSteps := 2000000) (disch := omega) only [ggx, g0, go_sem, seval, eq_self, if_true, if_false, reduceCtorEq]
      refine Cont.mk (hline _) ?_
      simp (maxSteps := 2000000) (disch := omega) only [← htx2, go_sem, seval, eq_self, if_true, if_false, reduceCtorEq]
      exact Ret.drop _ H (Nat.le_refl _) hcl (.rfl _) (by simp [refs, refs.refsL]) ⟨rfl, rfl⟩
    by_cases f1 : f = 1
    · have e0 : opsV ⟨f, u, v, a, b, c, op, im⟩ = [(a, true), (b, true), (im, false)] := by simp [opsV, f1]
      have e1 : shF ⟨f, u, v, a, b, c, op, im⟩ = (0, op, u, v) := by simp [shF, f1]
      have ei : c = 0 := by omega
      rw [e0] at hvs
      rw [e1] at hsh
      subst f1 ei hvs hy
      obtain ⟨ef, eop, eu, evv⟩ : e.f = 0 ∧ e.op = op ∧ e.u = u ∧ e.v = v := by simpa using hsh
      rw [ef, eop, eu, evv]
      simp (maxSteps := 2000000) (disch := omega) only [vlA, vlH, vlD, lastB_3, go_sem, seval, eq_self, if_true, if_false, reduceCtorEq]
      refine W.dregD [([], []), ([], []), ([], []), ([], [H.length + 2]), ([], [H.length + 2]), ([], [H.length + 2]), ([], [H.length + 2, H.length + 2]), ([], [H.length + 2, H.length + 2]), ([], []), ([H.length + 2], []), ([], []), ([H.length + 2], []), ([], []), ([H.length + 2], [])] follows (by decide +kernel) rfl rfl (fun z hz b' hb' => ?_) ?_
      · simp only [List.mem_cons, List.not_mem_nil, or_false] at hz
        rcases hz with rfl | rfl | rfl | rfl | rfl | rfl | rfl | rfl | rfl | rfl | rfl | rfl | rfl | rfl <;> simp at hb' <;> subst hb' <;> exact ⟨by simp, dg1 _ _ (by simp) _⟩
      repeat (rw [DC_p]; simp (maxSteps := 2000000) (disch := omega) only [kill_c, hs3, g3_0, g3_1, g3_2, go_sem, seval, eq_self, if_true, if_false, reduceCtorEq])
      refine WStep.ev (by simp) (by simp) ?_
      simp (maxSteps := 2000000) (disch := omega) only [go_sem, seval, eq_self, if_true, if_false, reduceCtorEq]
      refine ⟨fr _ _ _ _, ?_⟩
      repeat (rw [DC_p]; simp (maxSteps := 2000000) (disch := omega) only [kill_c, hs3, g3_0, g3_1, g3_2, go_sem, seval, eq_self, if_true, if_false, reduceCtorEq])
      refine WStep.ev (by simp) (by simp) ?_
      simp (maxSteps := 2000000) (disch := omega) only [go_sem, seval, eq_self, if_true, if_false, reduceCtorEq]
      refine ⟨fr _ _ _ _, ?_⟩
      repeat (rw [DC_p]; simp (maxSteps := 2000000) (disch := omega) only [kill_c, hs3, g3_0, g3_1, g3_2, go_sem, seval, eq_self, if_true, if_false, reduceCtorEq])
      refine WStep.ev (by simp) (by simp) ?_
      simp (maxSteps := 2000000) (disch := omega) only [go_sem, seval, eq_self, if_true, if_false, reduceCtorEq]
      refine ⟨fr _ _ _ _, ?_⟩
      simp (maxSteps := 2000000) (disch := omega) only [g3_2, hs3, go_sem, seval, eq_self, if_true, if_false, reduceCtorEq]
      refine Cont.mk (henc _) ?_
      simp (maxSteps := 2000000) (disch := omega) only [ggx, g0, go_sem, seval, eq_self, if_true, if_false, reduceCtorEq]
      refine Cont.mk (hline _) ?_
      simp (maxSteps := 2000000) (disch := omega) only [← htx2, go_sem, seval, eq_self, if_true, if_false, reduceCtorEq]
      exact Ret.drop _ H (Nat.le_refl _) hcl (.rfl _) (by simp [refs, refs.refsL]) ⟨rfl, rfl⟩
    by_cases f2 : f = 2
    · have e0 : opsV ⟨f, u, v, a, b, c, op, im⟩ = [(a, true), (b, true), (im, false)] := by simp [opsV, f2]
      have e1 : shF ⟨f, u, v, a, b, c, op, im⟩ = (2, 0, u, v) := by simp [shF, f2]
      have ei : c = 0 := by omega
      have eo' : op = 0 := by omega
      rw [e0] at hvs
      rw [e1] at hsh
      subst f2 ei eo' hvs hy
      obtain ⟨ef, eop, eu, evv⟩ : e.f = 2 ∧ e.op = 0 ∧ e.u = u ∧ e.v = v := by simpa using hsh
      rw [ef, eop, eu, evv]
      simp (maxSteps := 2000000) (disch := omega) only [vlA, vlH, vlD, lastB_3, go_sem, seval, eq_self, if_true, if_false, reduceCtorEq]
      refine W.dregD [([], []), ([], []), ([], []), ([], [H.length + 2]), ([], [H.length + 2]), ([], [H.length + 2]), ([], [H.length + 2, H.length + 2]), ([], [H.length + 2, H.length + 2]), ([], []), ([H.length + 2], []), ([], []), ([H.length + 2], []), ([], []), ([H.length + 2], [])] follows (by decide +kernel) rfl rfl (fun z hz b' hb' => ?_) ?_
      · simp only [List.mem_cons, List.not_mem_nil, or_false] at hz
        rcases hz with rfl | rfl | rfl | rfl | rfl | rfl | rfl | rfl | rfl | rfl | rfl | rfl | rfl | rfl <;> simp at hb' <;> subst hb' <;> exact ⟨by simp, dg1 _ _ (by simp) _⟩
      repeat (rw [DC_p]; simp (maxSteps := 2000000) (disch := omega) only [kill_c, hs3, g3_0, g3_1, g3_2, go_sem, seval, eq_self, if_true, if_false, reduceCtorEq])
      refine WStep.ev (by simp) (by simp) ?_
      simp (maxSteps := 2000000) (disch := omega) only [go_sem, seval, eq_self, if_true, if_false, reduceCtorEq]
      refine ⟨fr _ _ _ _, ?_⟩
      repeat (rw [DC_p]; simp (maxSteps := 2000000) (disch := omega) only [kill_c, hs3, g3_0, g3_1, g3_2, go_sem, seval, eq_self, if_true, if_false, reduceCtorEq])
      refine WStep.ev (by simp) (by simp) ?_
      simp (maxSteps := 2000000) (disch := omega) only [go_sem, seval, eq_self, if_true, if_false, reduceCtorEq]
      refine ⟨fr _ _ _ _, ?_⟩
      repeat (rw [DC_p]; simp (maxSteps := 2000000) (disch := omega) only [kill_c, hs3, g3_0, g3_1, g3_2, go_sem, seval, eq_self, if_true, if_false, reduceCtorEq])
      refine WStep.ev (by simp) (by simp) ?_
      simp (maxSteps := 2000000) (disch := omega) only [go_sem, seval, eq_self, if_true, if_false, reduceCtorEq]
      refine ⟨fr _ _ _ _, ?_⟩
      simp (maxSteps := 2000000) (disch := omega) only [g3_2, hs3, go_sem, seval, eq_self, if_true, if_false, reduceCtorEq]
      refine Cont.mk (henc _) ?_
      simp (maxSteps := 2000000) (disch := omega) only [ggx, g0, go_sem, seval, eq_self, if_true, if_false, reduceCtorEq]
      refine Cont.mk (hline _) ?_
      simp (maxSteps := 2000000) (disch := omega) only [← htx2, go_sem, seval, eq_self, if_true, if_false, reduceCtorEq]
      exact Ret.drop _ H (Nat.le_refl _) hcl (.rfl _) (by simp [refs, refs.refsL]) ⟨rfl, rfl⟩
    have f3 : f = 3 := by omega
    have e1 : shF ⟨f, u, v, a, b, c, op, im⟩ = (3, a, false, v) := by simp [shF, f3]
    have ei : b = 0 := by omega
    have eo' : op = 0 := by omega
    rw [e1] at hsh
    obtain ⟨ef, eop, eu, evv⟩ : e.f = 3 ∧ e.op = a ∧ e.u = false ∧ e.v = v := by simpa using hsh
    cases u
    · have e0 : opsV ⟨f, false, v, a, b, c, op, im⟩ = [(c, true)] := by simp [opsV, f3]
      have eim : im = 0 := by
        rcases hk with h | h | h | ⟨-, -, -, h | h⟩
        · omega
        · omega
        · omega
        · cases h.1
        · exact h.2
      rw [e0] at hvs
      subst f3 ei eo' eim hvs hy
      rw [ef, eop, eu, evv]
      simp (maxSteps := 2000000) (disch := omega) only [vlA, vlH, vlD, lastB_1, hs3, g1_0, go_sem, seval, eq_self, if_true, if_false, reduceCtorEq]
      refine Cont.mk (henc _) ?_
      simp (maxSteps := 2000000) (disch := omega) only [ggx, g0, go_sem, seval, eq_self, if_true, if_false, reduceCtorEq]
      refine Cont.mk (hline _) ?_
      simp (maxSteps := 2000000) (disch := omega) only [← htx2, go_sem, seval, eq_self, if_true, if_false, reduceCtorEq]
      exact Ret.drop _ H (Nat.le_refl _) hcl (.rfl _) (by simp [refs, refs.refsL]) ⟨rfl, rfl⟩
    · have e0 : opsV ⟨f, true, v, a, b, c, op, im⟩ = [(im, false)] := by simp [opsV, f3]
      have ec : c = 0 := by
        rcases hk with h | h | h | ⟨-, -, -, h | h⟩
        · omega
        · omega
        · omega
        · exact h.2
        · cases h.1
      rw [e0] at hvs
      subst f3 ei eo' ec hvs hy
      rw [ef, eop, eu, evv]
      simp (maxSteps := 2000000) (disch := omega) only [vlA, vlH, vlD, lastB_1, hs3, g1_0, go_sem, seval, eq_self, if_true, if_false, reduceCtorEq]
      refine Cont.mk (henc _) ?_
      simp (maxSteps := 2000000) (disch := omega) only [ggx, g0, go_sem, seval, eq_self, if_true, if_false, reduceCtorEq]
      refine Cont.mk (hline _) ?_
      simp (maxSteps := 2000000) (disch := omega) only [← htx2, go_sem, seval, eq_self, if_true, if_false, reduceCtorEq]
      exact Ret.drop _ H (Nat.le_refl _) hcl (.rfl _) (by simp [refs, refs.refsL]) ⟨rfl, rfl⟩
end Go.Proofs.YtmgmoamcbnkbfaaGreatDoor
