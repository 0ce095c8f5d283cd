/- A word's line. -/
import Derived.Test.YtmgmoamcbnkbfaaGreatDoorYN4
import Derived.Test.YtmgmoamcbnkbfaaGreatDoorYC9
import Derived.Test.YtmgmoamcbnkbfaaGreatDoorYK7
set_option linter.unusedVariables false
set_option linter.unusedSimpArgs false
set_option linter.unusedSectionVars false
namespace Go.Proofs.YtmgmoamcbnkbfaaGreatDoor
set_option linter.unusedSimpArgs false
set_option linter.unusedVariables false
set_option maxRecDepth 20000
set_option maxHeartbeats 2000000
open Go.RowKit

/-- The shape of an instruction. -/
def shF (x : In) : Int × Int × Bool × Bool := if x.f = 3 then (3, x.a, false, x.v) else if x.f = 2 then (2, 0, x.u, x.v) else (0, x.op, x.u, x.v)
abbrev shA (q : Int × Int × Bool × Bool) : AV := .agg [iv q.1, iv q.2.1, bv q.2.2.1, bv q.2.2.2]
theorem of_c (x : In) (H : List ABlk) : ACalls Tryz.prog 34 [x.av] H fun v H' => v = shA (shF x) ∧ H' = H := by
  obtain ⟨f, u, v, a, b, c, op, im⟩ := x
  refine ACalls.into Tryz.func34 cc34 rr34 fun hcl => ?_
  by_cases h3 : f = 3
  · have e : shF ⟨f, u, v, a, b, c, op, im⟩ = (3, a, false, v) := by simp [shF, h3]
    rw [e]
    subst h3
    simp (maxSteps := 2000000) (disch := omega) only [Tryz.ntmps34, c34, r34, go_sem, seval, eq_self, if_true, if_false, reduceCtorEq]
    exact Ret.drop _ H (Nat.le_refl _) hcl (.rfl _) (by simp [refs, refs.refsL]) ⟨rfl, rfl⟩
  by_cases h2 : f = 2
  · have e : shF ⟨f, u, v, a, b, c, op, im⟩ = (2, 0, u, v) := by simp [shF, h2]
    rw [e]
    subst h2
    simp (maxSteps := 2000000) (disch := omega) only [Tryz.ntmps34, c34, r34, go_sem, seval, eq_self, if_true, if_false, reduceCtorEq]
    exact Ret.drop _ H (Nat.le_refl _) hcl (.rfl _) (by simp [refs, refs.refsL]) ⟨rfl, rfl⟩
  · have e : shF ⟨f, u, v, a, b, c, op, im⟩ = (0, op, u, v) := by simp [shF, h2, h3]
    rw [e]
    simp (maxSteps := 2000000) (disch := omega) only [Tryz.ntmps34, c34, r34, go_sem, seval, eq_self, if_true, if_false, reduceCtorEq]
    exact Ret.drop _ H (Nat.le_refl _) hcl (.rfl _) (by simp [refs, refs.refsL]) ⟨rfl, rfl⟩
def rgT (n : Int) : List UInt8 := 82 :: Lib.itoa n
abbrev J32 (n : Int) : Prop := -4294967296 ≤ n ∧ n ≤ 4294967296
theorem itoa_len {n : Int} (h : J32 n) : (Lib.itoa n).length ≤ 21 := Lib.itoa_length_le n (by omega) (by omega)
theorem reg1_c (n : Int) (hn : J32 n) (H : List ABlk) : ACalls Tryz.prog 35 [iv n] H fun v H' => v = sv (bs (rgT n)) ∧ H' = H := by
  have e : (⟨#[82]⟩ : ByteArray) ++ bs (Lib.itoa n) = bs (rgT n) := bs_app [82] _
  have a1 := add_ok (a := [82]) (b := Lib.itoa n) (by have := itoa_len hn; simp only [List.length_cons, List.length_nil]; omega)
  refine ACalls.into Tryz.func35 cc35 rr35 fun hcl => ?_
  simp (maxSteps := 2000000) (disch := omega) only [Tryz.ntmps35, c35, r35, go_sem, seval, eq_self, if_true, if_false, reduceCtorEq]
  refine Cont.mk (itoa_c n (by omega) (by omega) _) ?_
  simp (maxSteps := 2000000) (disch := omega) only [e, a1, go_sem, seval, eq_self, if_true, if_false, reduceCtorEq]
  exact Ret.keep ⟨rfl, rfl⟩
/-! the names, looked up -/
theorem entS_val {k : Value} {v : AV} {n : Nat} : ∀ (L : List Ent) (i : Nat), mapGet (entS i L) k = some (v, n) → v = iv n
  | [], i, h => by simp [entS, mapGet] at h
  | e :: L, i, h => by
    simp only [entS, mapGet] at h
    split at h
    · cases h; rfl
    · exact entS_val L (i + 1) h
theorem entN_val {k : Value} {v : AV} {n : Nat} : ∀ (L : List Ent) (i : Nat), mapGet (entN i L) k = some (v, n) → v = iv n
  | [], i, h => by simp [entN, mapGet] at h
  | e :: L, i, h => by
    simp only [entN, mapGet] at h
    split at h
    · cases h; rfl
    · exact entN_val L (i + 1) h
theorem tab_lk : (List.range 84).all (fun k => match tab[k]? with | some e => (mapGet (entS 0 tab) (kSh e.f e.op e.u e.v)).map (·.2) == some k && (mapGet (entN 0 tab) (.string (bs e.nm))).map (·.2) == some k && e.nm.all (fun b => b != 32 && b != 10 && b != 35) && !e.nm.isEmpty | none => false) = true := by kernel_rfl
theorem tab_lks {k : Nat} {e : Ent} (h : tab[k]? = some e) : mapGet (entS 0 tab) (kSh e.f e.op e.u e.v) = some (iv k, k) ∧ mapGet (entN 0 tab) (.string (bs e.nm)) = some (iv k, k) ∧ (∀ b ∈ e.nm, b ≠ 32 ∧ b ≠ 10 ∧ b ≠ 35) ∧ e.nm ≠ [] := by
  have hk : k < 84 := (List.getElem?_eq_some_iff.1 h).1
  have := List.all_eq_true.1 tab_lk k (List.mem_range.2 hk)
  simp only [h, Bool.and_eq_true, beq_iff_eq, List.all_eq_true, bne_iff_ne, ne_eq, Bool.not_eq_true', List.isEmpty_eq_false_iff] at this
  obtain ⟨⟨⟨h1, h2⟩, h3⟩, h4⟩ := this
  refine ⟨?_, ?_, fun b hb => ⟨(h3 b hb).1.1, (h3 b hb).1.2, (h3 b hb).2⟩, h4⟩
  · cases hq : mapGet (entS 0 tab) (kSh e.f e.op e.u e.v) with
    | none => rw [hq] at h1; cases h1
    | some p =>
      obtain ⟨v, n⟩ := p
      rw [hq] at h1
      cases h1
      rw [entS_val _ _ hq]
  · cases hq : mapGet (entN 0 tab) (.string (bs e.nm)) with
    | none => rw [hq] at h2; cases h2
    | some p =>
      obtain ⟨v, n⟩ := p
      rw [hq] at h2
      cases h2
      rw [entN_val _ _ hq]
/-- Where an instruction's name stands. -/
def idxF (x : In) : Nat := if x.f = 3 then 52 + 2 * x.a.toNat + x.v.toNat else if x.f = 2 then 48 + x.u.toNat + 2 * x.v.toNat else 4 * x.op.toNat + x.u.toNat + 2 * x.v.toNat
theorem gd_op {x : In} (h : gdB x = true) : 0 ≤ x.op ∧ x.op ≤ 11 := by
  simp only [gdB, Bool.and_eq_true, decide_eq_true_eq] at h
  exact ⟨h.1.1.2, h.1.2⟩
theorem ent_at {x : In} (hx : InOk x) (hg : gdB x = true) : ∃ e, tab[idxF x]? = some e ∧ (e.f, e.op, e.u, e.v) = shF x := by
  obtain ⟨f, u, v, a, b, c, op, im⟩ := x
  have ha := hx.a
  have hop := gd_op hg
  simp only at ha hop
  by_cases h3 : f = 3
  · obtain ⟨t1, t2⟩ := tab_jmp ⟨a.toNat, by omega⟩
    simp only at t1 t2
    have e2 : ((a.toNat : Nat) : Int) = a := by omega
    cases v
    · refine ⟨_, by simp only [idxF, h3, if_true, Bool.toNat_false, Nat.add_zero]; exact t1, by simp [shF, h3, e2]⟩
    · refine ⟨_, by simp only [idxF, h3, if_true, Bool.toNat_true]; rw [show 52 + 2 * a.toNat + 1 = 53 + 2 * a.toNat by omega]; exact t2, by simp [shF, h3, e2]⟩
  by_cases h2 : f = 2
  · have := tab_mem
    cases u <;> cases v
    · exact ⟨_, by simp only [idxF, h2]; exact tab_mem ⟨0, by decide⟩, by simp [shF, h2]⟩
    · exact ⟨_, by simp only [idxF, h2]; exact tab_mem ⟨2, by decide⟩, by simp [shF, h2]⟩
    · exact ⟨_, by simp only [idxF, h2]; exact tab_mem ⟨1, by decide⟩, by simp [shF, h2]⟩
    · exact ⟨_, by simp only [idxF, h2]; exact tab_mem ⟨3, by decide⟩, by simp [shF, h2]⟩
  · have e2 : ((op.toNat : Nat) : Int) = op := by omega
    cases u <;> cases v
    · exact ⟨_, by simp only [idxF, h2, h3, if_false]; exact tab_reg ⟨op.toNat, by omega⟩ ⟨0, by decide⟩, by simp [shF, h2, h3, e2]⟩
    · exact ⟨_, by simp only [idxF, h2, h3, if_false]; exact tab_reg ⟨op.toNat, by omega⟩ ⟨2, by decide⟩, by simp [shF, h2, h3, e2]⟩
    · exact ⟨_, by simp only [idxF, h2, h3, if_false]; exact tab_reg ⟨op.toNat, by omega⟩ ⟨1, by decide⟩, by simp [shF, h2, h3, e2]⟩
    · exact ⟨_, by simp only [idxF, h2, h3, if_false]; exact tab_reg ⟨op.toNat, by omega⟩ ⟨3, by decide⟩, by simp [shF, h2, h3, e2]⟩
def nmF (x : In) : List UInt8 := (tab.getD (idxF x) ⟨0, 0, false, false, []⟩).nm
def opsF (x : In) : List (List UInt8) := if x.f = 0 then [rgT x.a, rgT x.b, rgT x.c] else if x.f = 3 then (if x.u = true then [Lib.itoa x.im] else [rgT x.c]) else [rgT x.a, rgT x.b, Lib.itoa x.im]
/-- An instruction's line. -/
def txtF (x : In) : List UInt8 := nmF x ++ 32 :: joinS (opsF x)
end Go.Proofs.YtmgmoamcbnkbfaaGreatDoor

/- A word's line: the walk. -/
namespace Go.Proofs.YtmgmoamcbnkbfaaGreatDoor
set_option linter.unusedSimpArgs false
set_option linter.unusedVariables false
set_option maxRecDepth 20000
set_option maxHeartbeats 4000000
open Go.RowKit

theorem nm_ia {k : Nat} {e : Ent} {b : Nat} (h : tab[k]? = some e) : iaA (.gsl b 1 (tab.map nmD)) (k : Int) 1 = some (.ip [.v (.string (bs e.nm))]) := by
  have hk : k < tab.length := (List.getElem?_eq_some_iff.1 h).1
  have hx : (tab.map nmD).getD k [] = nmD e := by rw [List.getD_eq_getElem?_getD, List.getElem?_map, h]; rfl
  simp only [iaA]
  rw [if_pos ⟨by omega, by rw [List.length_map]; omega, trivial⟩, Int.toNat_natCast, hx]
theorem NAt.all {H0 H : List ABlk} {nb : Nat} (h : NAt H0 H nb tab) : ∃ m1 m2 b1 b2, H[nb]? = some (.cells [.gsl b1 1 (tab.map nmD), .gsl b2 4 (tab.map shD), .mp m1, .mp m2]) ∧ H[m1]? = some (.map ktS 84 (entS 0 tab)) ∧ H[m2]? = some (.map ktN 84 (entN 0 tab)) := by
  obtain ⟨⟨m1, m2, nv, sw, h1, h2, h3, -, -, h4⟩, -, -⟩ := h
  rcases h4 with ⟨h4, -⟩ | ⟨b1, b2, rfl, rfl, -⟩
  · exact absurd h4 (by decide)
  · exact ⟨m1, m2, b1, b2, h1, h2, h3⟩
theorem NAt.ext {H0 H l : List ABlk} {nb : Nat} {L : List Ent} (h : NAt H0 H nb L) : NAt H0 (H ++ l) nb L := by
  have ap : ∀ {b : Nat} {k : ABlk}, H[b]? = some k → (H ++ l)[b]? = some k := fun hb => by rw [List.getElem?_append_left (List.getElem?_eq_some_iff.1 hb).1, hb]
  obtain ⟨⟨m1, m2, nv, sw, h1, h2, h3, h4, h5, h6⟩, h7, h8⟩ := h
  refine ⟨⟨m1, m2, nv, sw, ap h1, ap h2, ap h3, h4, h5, ?_⟩, h7.trans ⟨l, rfl⟩, h8⟩
  rcases h6 with h6 | ⟨b1, b2, e1, e2, e3, e4, e5⟩
  · exact .inl h6
  · exact .inr ⟨b1, b2, e1, e2, ap e3, ap e4, e5⟩
theorem line0_c {H0 H : List ABlk} {nb : Nat} (hn : NAt H0 H nb tab) {w : Int} (hw : U32 w) (he : decE w = 20) : ACalls Tryz.prog 16 [.ptr nb 0, wv w] H fun v H' => v = .tup [sv ⟨#[]⟩, iv 20] ∧ H' = H := by
  obtain ⟨hx, hee, hdc⟩ := dec_spec hw
  rw [he] at hdc
  refine ACalls.into Tryz.func16 cc16 rr16 fun hcl => ?_
  simp (maxSteps := 2000000) (disch := omega) only [Tryz.ntmps16, c16, r16, go_sem, seval, eq_self, if_true, if_false, reduceCtorEq]
  refine Cont.mk (hdc _) ?_
  simp (maxSteps := 2000000) (disch := omega) only [go_sem, seval, eq_self, if_true, if_false, reduceCtorEq]
  exact Ret.drop _ H (Nat.le_refl _) hcl (.rfl _) (by simp [refs, refs.refsL]) ⟨rfl, rfl⟩
theorem mx_ok {n : Nat} (h : n ≤ 1000000) : (IntKind.i64.max < (n : Int)) = False := eq_false (by
  have h1 : IntKind.i64.max = 9223372036854775807 := by decide
  omega)
theorem line1_c {H0 H : List ABlk} {nb : Nat} (hn : NAt H0 H nb tab) {w : Int} (hw : U32 w) (he : decE w = 0) : ACalls Tryz.prog 16 [.ptr nb 0, wv w] H fun v H' => v = .tup [sv (bs (txtF (decX w))), iv 0] ∧ H' = H := by
  obtain ⟨hx, hee, hdc⟩ := dec_spec hw
  rw [he] at hdc hee
  rcases hee with ⟨-, hgd, -⟩ | h
  rotate_left
  · cases h
  generalize decX w = x at *
  obtain ⟨m1, m2, b1, b2, g0, g1, g2⟩ := hn.all
  obtain ⟨e, hte, hsh⟩ := ent_at hx hgd
  obtain ⟨l1, l2, -, -⟩ := tab_lks hte
  have hia := nm_ia (b := b1) hte
  obtain ⟨eo, -⟩ := tab_at hte
  have fS := eo.fitS
  have hnm : nmF x = e.nm := by rw [nmF, List.getD_eq_getElem?_getD, hte]; rfl
  have hof := of_c x
  rw [← hsh] at hof
  have hnl := eo.nm
  have ha := hx.a
  have hb := hx.b
  have hc := hx.c
  have him := hx.im
  obtain ⟨ra, hra⟩ : ∃ ra, ra = rgT x.a := ⟨_, rfl⟩
  obtain ⟨rb, hrb⟩ : ∃ rb, rb = rgT x.b := ⟨_, rfl⟩
  obtain ⟨rc, hrc⟩ : ∃ rc, rc = rgT x.c := ⟨_, rfl⟩
  obtain ⟨ri, hri⟩ : ∃ ri, ri = Lib.itoa x.im := ⟨_, rfl⟩
  have la : ra.length ≤ 30 := by have := itoa_len (n := x.a) (by omega); rw [hra, rgT, List.length_cons]; omega
  have lb : rb.length ≤ 30 := by have := itoa_len (n := x.b) (by omega); rw [hrb, rgT, List.length_cons]; omega
  have lc : rc.length ≤ 30 := by have := itoa_len (n := x.c) (by omega); rw [hrc, rgT, List.length_cons]; omega
  have li : ri.length ≤ 30 := by have := itoa_len (n := x.im) (by omega); rw [hri]; omega
  have ca := reg1_c x.a (by omega)
  have cb := reg1_c x.b (by omega)
  have cc := reg1_c x.c (by omega)
  have ci := itoa_c x.im (by omega) (by omega)
  rw [← hra] at ca
  rw [← hrb] at cb
  rw [← hrc] at cc
  rw [← hri] at ci
  have gx : ∀ y : ABlk, (H ++ [y])[nb]? = H[nb]? := fun y => List.getElem?_append_left (List.getElem?_eq_some_iff.1 g0).1
  have gm : ∀ y : ABlk, (H ++ [y])[m1]? = H[m1]? := fun y => List.getElem?_append_left (List.getElem?_eq_some_iff.1 g1).1
  have op := opsF x
  refine ACalls.into Tryz.func16 cc16 rr16 fun hcl => ?_
  simp (maxSteps := 2000000) (disch := omega) only [Tryz.ntmps16, c16, r16, go_sem, seval, eq_self, if_true, if_false, reduceCtorEq]
  refine Cont.mk (hdc _) ?_
  simp (maxSteps := 2000000) (disch := omega) only [go_sem, seval, eq_self, if_true, if_false, reduceCtorEq]
  refine W.pchain follows (by decide +kernel) ?_
  have a0 := add_ok (a := e.nm) (b := [32]) (by simp only [List.length_cons, List.length_nil]; omega)
  simp (maxSteps := 2000000) (disch := omega) only [gx, gm, g0, g1, go_sem, seval, eq_self, if_true, if_false, reduceCtorEq]
  refine PCont.mk (hof _) ?_
  have kq : keyOf (shA (e.f, e.op, e.u, e.v)) = some (kSh e.f e.op e.u e.v) := rfl
  have mq : mapOf H ktS (.mp m1) = some (entS 0 tab) := by simp [mapOf, g1]
  have mq1 : ∀ y, mapOf (H ++ [y]) ktS (.mp m1) = some (entS 0 tab) := fun y => by simp [mapOf, gm, g1]
  simp (maxSteps := 2000000) (disch := omega) only [gm, g1, fS, l1, hia, kq, mq, mq1, a0, go_sem, seval, eq_self, if_true, if_false, reduceCtorEq]
  have s1 : (IntKind.i64.max < ((e.nm.toArray.size + #[(32 : UInt8)].size + ra.toArray.size : Nat) : Int)) = False := mx_ok (by simp only [List.size_toArray, List.length_cons, List.length_nil]; omega)
  have s2 : (IntKind.i64.max < ((e.nm.toArray.size + #[(32 : UInt8)].size + ra.toArray.size + #[(44 : UInt8), 32].size : Nat) : Int)) = False := mx_ok (by simp only [List.size_toArray, List.length_cons, List.length_nil]; omega)
  have s3 : (IntKind.i64.max < ((e.nm.toArray.size + #[(32 : UInt8)].size + ra.toArray.size + #[(44 : UInt8), 32].size + rb.toArray.size : Nat) : Int)) = False := mx_ok (by simp only [List.size_toArray, List.length_cons, List.length_nil]; omega)
  have s4 : (IntKind.i64.max < ((e.nm.toArray.size + #[(32 : UInt8)].size + ra.toArray.size + #[(44 : UInt8), 32].size + rb.toArray.size + #[(44 : UInt8), 32].size : Nat) : Int)) = False := mx_ok (by simp only [List.size_toArray, List.length_cons, List.length_nil]; omega)
  have s5 : (IntKind.i64.max < ((e.nm.toArray.size + #[(32 : UInt8)].size + ra.toArray.size + #[(44 : UInt8), 32].size + rb.toArray.size + #[(44 : UInt8), 32].size + rc.toArray.size : Nat) : Int)) = False := mx_ok (by simp only [List.size_toArray, List.length_cons, List.length_nil]; omega)
  have s6 : (IntKind.i64.max < ((e.nm.toArray.size + #[(32 : UInt8)].size + ra.toArray.size + #[(44 : UInt8), 32].size + rb.toArray.size + #[(44 : UInt8), 32].size + ri.toArray.size : Nat) : Int)) = False := mx_ok (by simp only [List.size_toArray, List.length_cons, List.length_nil]; omega)
  have s7 : (IntKind.i64.max < ((e.nm.toArray.size + #[(32 : UInt8)].size + rc.toArray.size : Nat) : Int)) = False := mx_ok (by simp only [List.size_toArray, List.length_cons, List.length_nil]; omega)
  have s8 : (IntKind.i64.max < ((e.nm.toArray.size + #[(32 : UInt8)].size + ri.toArray.size : Nat) : Int)) = False := mx_ok (by simp only [List.size_toArray, List.length_cons, List.length_nil]; omega)
  by_cases f0 : x.f = 0
  · have tx : bs e.nm ++ bs [32] ++ bs ra ++ bs [44, 32] ++ bs rb ++ bs [44, 32] ++ bs rc = bs (txtF x) := by simp only [txtF, hnm, opsF, f0, if_true, joinS, hra, hrb, hrc, bs_app, List.append_assoc, List.cons_append, List.nil_append]
    simp (maxSteps := 2000000) (disch := omega) only [f0, go_sem, seval, eq_self, if_true, if_false, reduceCtorEq]
    refine W.pchain follows (by decide +kernel) ?_
    simp (maxSteps := 2000000) (disch := omega) only [gx, g0, f0, go_sem, seval, eq_self, if_true, if_false, reduceCtorEq]
    refine PCont.mk (ca _) ?_
    simp (maxSteps := 2000000) (disch := omega) only [gx, g0, f0, s1, s2, go_sem, seval, eq_self, if_true, if_false, reduceCtorEq]
    refine PCont.mk (cb _) ?_
    simp (maxSteps := 2000000) (disch := omega) only [gx, g0, f0, s3, s4, go_sem, seval, eq_self, if_true, if_false, reduceCtorEq]
    refine PCont.mk (cc _) ?_
    simp (maxSteps := 2000000) (disch := omega) only [gx, g0, f0, s5, go_sem, seval, eq_self, if_true, if_false, reduceCtorEq]
    exact Ret.drop _ H (Nat.le_refl _) hcl (.rfl _) (by simp [refs, refs.refsL]) ⟨congrArg (fun s => AV.tup [sv s, iv 0]) tx, rfl⟩
  by_cases f3 : x.f = 3
  · cases hu : x.u with
    | true =>
      have tx : bs e.nm ++ bs [32] ++ bs ri = bs (txtF x) := by simp only [txtF, hnm, opsF, f3, hu, if_true, if_neg (show ¬ ((3 : Int) = 0) by decide), joinS, hri, bs_app, List.append_assoc, List.cons_append, List.nil_append]
      simp (maxSteps := 2000000) (disch := omega) only [f3, hu, gx, g0, go_sem, seval, eq_self, if_true, if_false, reduceCtorEq]
      refine Cont.mk (ci _) ?_
      simp (maxSteps := 2000000) (disch := omega) only [gx, g0, s8, go_sem, seval, eq_self, if_true, if_false, reduceCtorEq]
      exact Ret.drop _ H (Nat.le_refl _) hcl (.rfl _) (by simp [refs, refs.refsL]) ⟨congrArg (fun s => AV.tup [sv s, iv 0]) tx, rfl⟩
    | false =>
      have tx : bs e.nm ++ bs [32] ++ bs rc = bs (txtF x) := by simp only [txtF, hnm, opsF, f3, hu, if_true, if_neg (show ¬ ((3 : Int) = 0) by decide), if_neg (show ¬ (false = true) by decide), joinS, hrc, bs_app, List.append_assoc, List.cons_append, List.nil_append]
      simp (maxSteps := 2000000) (disch := omega) only [f3, hu, gx, g0, go_sem, seval, eq_self, if_true, if_false, reduceCtorEq]
      refine Cont.mk (cc _) ?_
      simp (maxSteps := 2000000) (disch := omega) only [gx, g0, s7, go_sem, seval, eq_self, if_true, if_false, reduceCtorEq]
      exact Ret.drop _ H (Nat.le_refl _) hcl (.rfl _) (by simp [refs, refs.refsL]) ⟨congrArg (fun s => AV.tup [sv s, iv 0]) tx, rfl⟩
  · have tx : bs e.nm ++ bs [32] ++ bs ra ++ bs [44, 32] ++ bs rb ++ bs [44, 32] ++ bs ri = bs (txtF x) := by simp only [txtF, hnm, opsF, if_neg f0, if_neg f3, joinS, hra, hrb, hri, bs_app, List.append_assoc, List.cons_append, List.nil_append]
    simp (maxSteps := 2000000) (disch := omega) only [f0, f3, go_sem, seval, eq_self, if_true, if_false, reduceCtorEq]
    refine W.pchain follows (by decide +kernel) ?_
    simp (maxSteps := 2000000) (disch := omega) only [gx, g0, go_sem, seval, eq_self, if_true, if_false, reduceCtorEq]
    refine PCont.mk (ca _) ?_
    simp (maxSteps := 2000000) (disch := omega) only [gx, g0, s1, s2, go_sem, seval, eq_self, if_true, if_false, reduceCtorEq]
    refine PCont.mk (cb _) ?_
    simp (maxSteps := 2000000) (disch := omega) only [gx, g0, s3, s4, go_sem, seval, eq_self, if_true, if_false, reduceCtorEq]
    refine PCont.mk (ci _) ?_
    simp (maxSteps := 2000000) (disch := omega) only [gx, g0, s6, go_sem, seval, eq_self, if_true, if_false, reduceCtorEq]
    exact Ret.drop _ H (Nat.le_refl _) hcl (.rfl _) (by simp [refs, refs.refsL]) ⟨congrArg (fun s => AV.tup [sv s, iv 0]) tx, rfl⟩
end Go.Proofs.YtmgmoamcbnkbfaaGreatDoor
