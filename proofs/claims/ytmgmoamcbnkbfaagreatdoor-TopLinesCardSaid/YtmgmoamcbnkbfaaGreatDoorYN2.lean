/- The names of instructions: the table, how it lies in memory; a name that is put. -/
import Derived.Test.YtmgmoamcbnkbfaaGreatDoorYK5
set_option linter.unusedVariables false
set_option linter.unusedSimpArgs false
set_option linter.unusedSectionVars false
namespace Go.Proofs.YtmgmoamcbnkbfaaGreatDoor
set_option linter.unusedSimpArgs false
set_option linter.unusedVariables false
set_option maxRecDepth 20000
set_option maxHeartbeats 2000000
open Go.RowKit

/-- A name with its shape. -/
structure Ent where
  f : Int
  op : Int
  u : Bool
  v : Bool
  nm : List UInt8
  deriving DecidableEq
def tab : List Ent := [
  ⟨0, 0, false, false, [77, 79, 86]⟩,
  ⟨0, 0, true, false, [77, 79, 86, 39]⟩,
  ⟨0, 0, false, true, [77, 79, 86, 34]⟩,
  ⟨0, 0, true, true, [77, 79, 86, 39, 34]⟩,
  ⟨0, 1, false, false, [76, 83, 76]⟩,
  ⟨0, 1, true, false, [76, 83, 76, 39]⟩,
  ⟨0, 1, false, true, [76, 83, 76, 34]⟩,
  ⟨0, 1, true, true, [76, 83, 76, 39, 34]⟩,
  ⟨0, 2, false, false, [65, 83, 82]⟩,
  ⟨0, 2, true, false, [65, 83, 82, 39]⟩,
  ⟨0, 2, false, true, [65, 83, 82, 34]⟩,
  ⟨0, 2, true, true, [65, 83, 82, 39, 34]⟩,
  ⟨0, 3, false, false, [82, 79, 82]⟩,
  ⟨0, 3, true, false, [82, 79, 82, 39]⟩,
  ⟨0, 3, false, true, [82, 79, 82, 34]⟩,
  ⟨0, 3, true, true, [82, 79, 82, 39, 34]⟩,
  ⟨0, 4, false, false, [65, 78, 68]⟩,
  ⟨0, 4, true, false, [65, 78, 68, 39]⟩,
  ⟨0, 4, false, true, [65, 78, 68, 34]⟩,
  ⟨0, 4, true, true, [65, 78, 68, 39, 34]⟩,
  ⟨0, 5, false, false, [65, 78, 78]⟩,
  ⟨0, 5, true, false, [65, 78, 78, 39]⟩,
  ⟨0, 5, false, true, [65, 78, 78, 34]⟩,
  ⟨0, 5, true, true, [65, 78, 78, 39, 34]⟩,
  ⟨0, 6, false, false, [73, 79, 82]⟩,
  ⟨0, 6, true, false, [73, 79, 82, 39]⟩,
  ⟨0, 6, false, true, [73, 79, 82, 34]⟩,
  ⟨0, 6, true, true, [73, 79, 82, 39, 34]⟩,
  ⟨0, 7, false, false, [88, 79, 82]⟩,
  ⟨0, 7, true, false, [88, 79, 82, 39]⟩,
  ⟨0, 7, false, true, [88, 79, 82, 34]⟩,
  ⟨0, 7, true, true, [88, 79, 82, 39, 34]⟩,
  ⟨0, 8, false, false, [65, 68, 68]⟩,
  ⟨0, 8, true, false, [65, 68, 68, 39]⟩,
  ⟨0, 8, false, true, [65, 68, 68, 34]⟩,
  ⟨0, 8, true, true, [65, 68, 68, 39, 34]⟩,
  ⟨0, 9, false, false, [83, 85, 66]⟩,
  ⟨0, 9, true, false, [83, 85, 66, 39]⟩,
  ⟨0, 9, false, true, [83, 85, 66, 34]⟩,
  ⟨0, 9, true, true, [83, 85, 66, 39, 34]⟩,
  ⟨0, 10, false, false, [77, 85, 76]⟩,
  ⟨0, 10, true, false, [77, 85, 76, 39]⟩,
  ⟨0, 10, false, true, [77, 85, 76, 34]⟩,
  ⟨0, 10, true, true, [77, 85, 76, 39, 34]⟩,
  ⟨0, 11, false, false, [68, 73, 86]⟩,
  ⟨0, 11, true, false, [68, 73, 86, 39]⟩,
  ⟨0, 11, false, true, [68, 73, 86, 34]⟩,
  ⟨0, 11, true, true, [68, 73, 86, 39, 34]⟩,
  ⟨2, 0, false, false, [76, 68, 82]⟩,
  ⟨2, 0, true, false, [83, 84, 82]⟩,
  ⟨2, 0, false, true, [76, 68, 66]⟩,
  ⟨2, 0, true, true, [83, 84, 66]⟩,
  ⟨3, 0, false, false, [66, 46, 77, 73]⟩,
  ⟨3, 0, false, true, [66, 76, 46, 77, 73]⟩,
  ⟨3, 1, false, false, [66, 46, 69, 81]⟩,
  ⟨3, 1, false, true, [66, 76, 46, 69, 81]⟩,
  ⟨3, 2, false, false, [66, 46, 67, 83]⟩,
  ⟨3, 2, false, true, [66, 76, 46, 67, 83]⟩,
  ⟨3, 3, false, false, [66, 46, 86, 83]⟩,
  ⟨3, 3, false, true, [66, 76, 46, 86, 83]⟩,
  ⟨3, 4, false, false, [66, 46, 76, 83]⟩,
  ⟨3, 4, false, true, [66, 76, 46, 76, 83]⟩,
  ⟨3, 5, false, false, [66, 46, 76, 84]⟩,
  ⟨3, 5, false, true, [66, 76, 46, 76, 84]⟩,
  ⟨3, 6, false, false, [66, 46, 76, 69]⟩,
  ⟨3, 6, false, true, [66, 76, 46, 76, 69]⟩,
  ⟨3, 7, false, false, [66, 46, 84]⟩,
  ⟨3, 7, false, true, [66, 76, 46, 84]⟩,
  ⟨3, 8, false, false, [66, 46, 80, 76]⟩,
  ⟨3, 8, false, true, [66, 76, 46, 80, 76]⟩,
  ⟨3, 9, false, false, [66, 46, 78, 69]⟩,
  ⟨3, 9, false, true, [66, 76, 46, 78, 69]⟩,
  ⟨3, 10, false, false, [66, 46, 67, 67]⟩,
  ⟨3, 10, false, true, [66, 76, 46, 67, 67]⟩,
  ⟨3, 11, false, false, [66, 46, 86, 67]⟩,
  ⟨3, 11, false, true, [66, 76, 46, 86, 67]⟩,
  ⟨3, 12, false, false, [66, 46, 72, 73]⟩,
  ⟨3, 12, false, true, [66, 76, 46, 72, 73]⟩,
  ⟨3, 13, false, false, [66, 46, 71, 69]⟩,
  ⟨3, 13, false, true, [66, 76, 46, 71, 69]⟩,
  ⟨3, 14, false, false, [66, 46, 71, 84]⟩,
  ⟨3, 14, false, true, [66, 76, 46, 71, 84]⟩,
  ⟨3, 15, false, false, [66, 46, 70]⟩,
  ⟨3, 15, false, true, [66, 76, 46, 70]⟩]
abbrev kSh (f op : Int) (u v : Bool) : Value := .agg #[.int .i64 f, .int .i64 op, .bool u, .bool v]
abbrev shD (e : Ent) : List Dat := [.v (.int .i64 e.f), .v (.int .i64 e.op), .v (.bool e.u), .v (.bool e.v)]
abbrev nmD (e : Ent) : List Dat := [.v (.string (bs e.nm))]
abbrev ktS : KT := ⟨true, [.i .i64, .i .i64, .b, .b]⟩
abbrev ktN : KT := ⟨false, [.s]⟩
def entS (i : Nat) : List Ent → List (Value × AV × Nat)
  | [] => []
  | e :: l => (kSh e.f e.op e.u e.v, iv i, i) :: entS (i + 1) l
def entN (i : Nat) : List Ent → List (Value × AV × Nat)
  | [] => []
  | e :: l => (.string (bs e.nm), iv i, i) :: entN (i + 1) l
theorem entS_app (l m : List Ent) : ∀ i, entS i (l ++ m) = entS i l ++ entS (i + l.length) m := by
  induction l with
  | nil => intro i; rfl
  | cons e l ih => intro i; simp only [List.cons_append, entS, ih, List.length_cons]; rw [show i + 1 + l.length = i + (l.length + 1) by omega]
theorem entN_app (l m : List Ent) : ∀ i, entN i (l ++ m) = entN i l ++ entN (i + l.length) m := by
  induction l with
  | nil => intro i; rfl
  | cons e l ih => intro i; simp only [List.cons_append, entN, ih, List.length_cons]; rw [show i + 1 + l.length = i + (l.length + 1) by omega]
theorem entS_born (l : List Ent) : ∀ i, ∀ x ∈ entS i l, x.2.2 < i + l.length := by
  induction l with
  | nil => intro i x hx; cases hx
  | cons e l ih =>
    intro i x hx
    rw [List.length_cons]
    rcases List.mem_cons.1 hx with rfl | hx
    · simp only; omega
    · have := ih (i + 1) x hx; omega
theorem entN_born (l : List Ent) : ∀ i, ∀ x ∈ entN i l, x.2.2 < i + l.length := by
  induction l with
  | nil => intro i x hx; cases hx
  | cons e l ih =>
    intro i x hx
    rw [List.length_cons]
    rcases List.mem_cons.1 hx with rfl | hx
    · simp only; omega
    · have := ih (i + 1) x hx; omega
theorem mapSt_end {k : Value} {z v : AV} {n : Nat} : ∀ {es : List (Value × AV × Nat)}, (∀ x ∈ es, x.2.2 < n) → mapSt (es ++ [(k, z, n)]) n v = some (es ++ [(k, v, n)])
  | [], _ => by simp [mapSt]
  | e :: es, h => by
    have h1 : ((e.2.2 : Int) == (n : Int)) = false := by
      have := h e List.mem_cons_self
      simp only [beq_eq_false_iff_ne, ne_eq]; omega
    simp only [List.cons_append, mapSt, h1, Bool.false_eq_true, if_false, mapSt_end fun x hx => h x (List.mem_cons_of_mem _ hx)]
theorem ev_me {kt : KT} {z : AV} {m k : Opd} {s : List AV} {H : List ABlk} {b ck : Nat} {kv : Value} {es : List (Value × AV × Nat)} (hm : get s m = .mp b) (hk : keyOf (get s k) = some kv) (hf : keyFits kt kv = true) (hb : H[b]? = some (.map kt ck es)) (hn : mapGet es kv = none) :
    evK (.me kt z m k) s H = some (.tup [z, iv ck], H.set b (.map kt (ck + 1) (es ++ [(kv, z, ck)]))) := by
  simp only [evK, hm, hk, hf, hb, hn, if_true]
theorem ev_mes {m t v : Opd} {s : List AV} {H : List ABlk} {b ck n : Nat} {kt : KT} {x : AV} {es es' : List (Value × AV × Nat)} (hm : get s m = .mp b) (ht : get s t = iv n) (hx : get s v = x) (hb : H[b]? = some (.map kt ck es)) (hv : shown x = true) (he : mapSt es n x = some es') :
    evK (.mes m t v) s H = some (.tup [], H.set b (.map kt ck es')) := by
  simp only [evK, hm, ht, hx, hb, hv, he, if_true]
/-- The names in memory. -/
structure NAt (H0 H : List ABlk) (nb : Nat) (L : List Ent) : Prop where
  ex : ∃ m1 m2 nv sw, H[nb]? = some (.cells [nv, sw, .mp m1, .mp m2]) ∧ H[m1]? = some (.map ktS L.length (entS 0 L)) ∧ H[m2]? = some (.map ktN L.length (entN 0 L)) ∧ H0.length ≤ m1 ∧ H0.length ≤ m2 ∧
    ((L = [] ∧ nv = .esl ∧ sw = .esl) ∨ ∃ b1 b2, nv = .gsl b1 1 (L.map nmD) ∧ sw = .gsl b2 4 (L.map shD) ∧ H[b1]? = some (.row 9 1 L.length) ∧ H[b2]? = some (.row 82 4 L.length) ∧ H0.length ≤ b1 ∧ H0.length ≤ b2)
  pre : H0 <+: H
  lo : H0.length ≤ nb
end Go.Proofs.YtmgmoamcbnkbfaaGreatDoor

/- A name is put to the others. -/
namespace Go.Proofs.YtmgmoamcbnkbfaaGreatDoor
set_option linter.unusedSimpArgs false
set_option linter.unusedVariables false
set_option maxRecDepth 20000
set_option maxHeartbeats 2000000
open Go.RowKit

theorem ne_of {G : List ABlk} {a b : Nat} {x y : ABlk} (h1 : G[a]? = some x) (h2 : G[b]? = some y) (h : x ≠ y) : a ≠ b := fun e => h (by rw [e, h2] at h1; exact (Option.some.inj h1).symm)
structure EntOk (e : Ent) : Prop where
  f : 0 ≤ e.f ∧ e.f < 16
  op : 0 ≤ e.op ∧ e.op < 16
  nm : e.nm.length ≤ 16
theorem EntOk.fitS {e : Ent} (h : EntOk e) : keyFits ktS (kSh e.f e.op e.u e.v) = true := by
  obtain ⟨h1, h2⟩ := h.f
  obtain ⟨h3, h4⟩ := h.op
  have a1 : (-9223372036854775808 : Int) ≤ e.f := by omega
  have a2 : e.f ≤ 9223372036854775807 := by omega
  have a3 : (-9223372036854775808 : Int) ≤ e.op := by omega
  have a4 : e.op ≤ 9223372036854775807 := by omega
  simp [keyFits, fitL, kcFit, IntKind.min, IntKind.max, IntKind.signed, IntKind.bits, a1, a2, a3, a4]
theorem EntOk.fitN {e : Ent} (h : EntOk e) : keyFits ktN (.string (bs e.nm)) = true := by
  have h1 := h.nm
  have h2 : (bs e.nm).size = e.nm.length := List.size_toArray
  have h3 : e.nm.length ≤ maxLen := by unfold maxLen; omega
  simp only [keyFits, kcFit, h2, h3, decide_true]
theorem putN_c {H0 H : List ABlk} {vb nb : Nat} {L : List Ent} {e : Ent} (he : EntOk e) (hlen : L.length ≤ 1000) (hS : mapGet (entS 0 L) (kSh e.f e.op e.u e.v) = none) (hN : mapGet (entN 0 L) (.string (bs e.nm)) = none)
    (hv : H[vb]? = some (.cells [.ptr nb 0])) (hvl : H0.length ≤ vb) (hna : NAt H0 H nb L) :
    ACalls Tryz.prog 27 [.agg [iv e.f, iv e.op, bv e.u, bv e.v], sv (bs e.nm), .ptr vb 0] H fun v H' => v = .tup [] ∧ NAt H0 H' nb (L ++ [e]) ∧ H'[vb]? = some (.cells [.ptr nb 0]) := by
  obtain ⟨⟨m1, m2, nv, sw, hn, h1, h2, lo1, lo2, hnv⟩, hpre, hlo⟩ := hna
  have hnl : lenA nv = some L.length ∧ isStr nv = false := by
    rcases hnv with ⟨rfl, rfl, -⟩ | ⟨b1, b2, rfl, -⟩
    · exact ⟨rfl, rfl⟩
    · exact ⟨by simp [lenA], rfl⟩
  obtain ⟨hnl, hns⟩ := hnl
  simp only [lenA] at hnl
  simp only [isStr] at hns
  have fS := he.fitS
  have fN := he.fitN
  refine ACalls.enter Tryz.func27 cc27 rr27 fun hcl => ?_
  simp only [Tryz.ntmps27, c27, r27]
  refine W.seq_reg ?_
  simp (maxSteps := 2000000) (disch := omega) only [go_sem, seval, eq_self, if_true, if_false, reduceCtorEq]
  obtain ⟨x, hx⟩ : ∃ x, x = ABlk.cells [iv e.f, iv e.op, bv e.u, bv e.v] := ⟨_, rfl⟩
  obtain ⟨sb, hsb⟩ : ∃ sb, sb = H.length := ⟨_, rfl⟩
  have old : ∀ {b : Nat} {k : ABlk}, H[b]? = some k → b < sb ∧ (H ++ [x])[b]? = some k := fun {b k} hb => by
    have hlt : b < H.length := (List.getElem?_eq_some_iff.1 hb).1
    exact ⟨by omega, by rw [List.getElem?_append_left hlt]; exact hb⟩
  have gs : (H ++ [x])[sb]? = some (.cells [iv e.f, iv e.op, bv e.u, bv e.v]) := by rw [hsb, hx]; simp
  have gl : (H ++ [x]).length = sb + 1 := by rw [hsb]; simp
  obtain ⟨lv, gv⟩ := old hv
  obtain ⟨ln, gn⟩ := old hn
  obtain ⟨l1, g1⟩ := old h1
  obtain ⟨l2, g2⟩ := old h2
  rw [← hx, ← hsb]
  obtain ⟨G, hG⟩ : ∃ G, G = H ++ [x] := ⟨_, rfl⟩
  rw [← hG] at gs gl gv gn g1 g2 old ⊢
  have n01 := ne_of gv gn (by simp)
  have n02 := ne_of gv g1 (by simp)
  have n03 := ne_of gv g2 (by simp)
  have n12 := ne_of gn g1 (by simp)
  have n13 := ne_of gn g2 (by simp)
  have n23 := ne_of g1 g2 (by simp)
  have hnd : ∀ {b : Nat} {k : ABlk}, G[b]? = some k → k ≠ .dead → G[b]? ≠ some .dead := fun h h' => by rw [h]; exact fun e => h' (Option.some.inj e)
  refine W.seq ?_
  refine W.dregD [([], []), ([], []), ([], []), ([], []), ([], []), ([], []), ([], []), ([], []), ([], []), ([], [m1, m1]), ([], [m1]), ([], [m1]), ([], [m1]), ([], [m1]), ([], [m1]), ([], []), ([], []), ([], []), ([], []), ([], [m1, m1, m2]), ([m1], []), ([], []), ([m1], []), ([m2], []), ([], []), ([m2], [])] follows (by decide +kernel) rfl rfl (fun z hz b' hb' => ?_) ?_
  · simp only [List.mem_cons, List.not_mem_nil, or_false] at hz
    rcases hz with rfl | rfl | rfl | rfl | rfl | rfl | rfl | rfl | rfl | rfl | rfl | rfl | rfl | rfl | rfl | rfl | rfl | rfl | rfl | rfl | rfl | rfl | rfl | rfl | rfl | rfl <;> simp at hb' <;> subst hb' <;> first | exact ⟨by simp, hnd g1 (by simp)⟩ | exact ⟨by simp, hnd g2 (by simp)⟩
  repeat (rw [DC_p]; simp (maxSteps := 2000000) (disch := omega) only [kill_c, gv, gn, g1, g2, gs, List.getElem?_set_ne, hnl, hns, go_sem, seval, eq_self, if_true, if_false, reduceCtorEq])
  have eS : entS 0 (L ++ [e]) = entS 0 L ++ [(kSh e.f e.op e.u e.v, iv L.length, L.length)] := by rw [entS_app, Nat.zero_add]; rfl
  have eN : entN 0 (L ++ [e]) = entN 0 L ++ [(.string (bs e.nm), iv L.length, L.length)] := by rw [entN_app, Nat.zero_add]; rfl
  have bS : ∀ x ∈ entS 0 L, x.2.2 < L.length := by have := entS_born L 0; rwa [Nat.zero_add] at this
  have bN : ∀ x ∈ entN 0 L, x.2.2 < L.length := by have := entN_born L 0; rwa [Nat.zero_add] at this
  have lt1 : m1 < G.length := by omega
  have lt2 : m2 < G.length := by omega
  have gg1 : ∀ X : ABlk, (G.set m1 X)[m1]? = some X := fun X => List.getElem?_set_self lt1
  have gg2 : ∀ X Y : ABlk, ((G.set m1 X).set m2 Y)[m2]? = some Y := fun X Y => List.getElem?_set_self (by rw [List.length_set]; exact lt2)
  refine WStep.ev (by simp) (by simp) ?_
  rw [ev_me (b := m1) (kv := kSh e.f e.op e.u e.v) rfl rfl fS g1 hS, EvK_some]
  refine ⟨.set (by simp), ?_⟩
  simp (maxSteps := 2000000) (disch := omega) only [go_sem, seval, eq_self, if_true, if_false, reduceCtorEq]
  repeat (rw [DC_p]; simp (maxSteps := 2000000) (disch := omega) only [kill_c, List.getElem?_set_ne, go_sem, seval, eq_self, if_true, if_false, reduceCtorEq])
  refine WStep.ev (by simp) (by simp) ?_
  rw [ev_mes (b := m1) (n := L.length) (x := iv L.length) rfl rfl rfl (gg1 _) rfl (mapSt_end bS), EvK_some, List.set_set, ← eS]
  refine ⟨?_, ?_⟩
  · refine ⟨rfl, fun c hc => ?_, by simp⟩
    have : m1 ≠ c := fun e => hc (by simp [e])
    rw [List.getElem?_set_ne this, List.getElem?_set_ne this]
  simp (maxSteps := 2000000) (disch := omega) only [go_sem, seval, eq_self, if_true, if_false, reduceCtorEq]
  refine WStep.ev (by simp) (by simp) ?_
  rw [ev_me (b := m2) (kv := .string (bs e.nm)) rfl rfl fN (by rw [List.getElem?_set_ne n23]; exact g2) hN, EvK_some]
  refine ⟨.set (by simp), ?_⟩
  simp (maxSteps := 2000000) (disch := omega) only [go_sem, seval, eq_self, if_true, if_false, reduceCtorEq]
  repeat (rw [DC_p]; simp (maxSteps := 2000000) (disch := omega) only [kill_c, List.getElem?_set_ne, go_sem, seval, eq_self, if_true, if_false, reduceCtorEq])
  refine WStep.ev (by simp) (by simp) ?_
  rw [ev_mes (b := m2) (n := L.length) (x := iv L.length) rfl rfl rfl (gg2 _ _) rfl (mapSt_end bN), EvK_some, List.set_set, ← eN]
  refine ⟨?_, ?_⟩
  · refine ⟨rfl, fun c hc => ?_, by simp⟩
    have : m2 ≠ c := fun e => hc (by simp [e])
    rw [List.getElem?_set_ne this, List.getElem?_set_ne this]
  simp (maxSteps := 2000000) (disch := omega) only [go_sem, seval, eq_self, if_true, if_false, reduceCtorEq]
  clear hnl hns
  have sv' : ∀ {b : Nat} {k : ABlk}, G[b]? = some k → b ≠ m1 → b ≠ m2 → ((G.set m1 (.map ktS (L.length + 1) (entS 0 (L ++ [e])))).set m2 (.map ktN (L.length + 1) (entN 0 (L ++ [e]))))[b]? = some k := fun h h1 h2 => by
    rw [List.getElem?_set_ne (Ne.symm h2), List.getElem?_set_ne (Ne.symm h1)]; exact h
  have n0s : vb ≠ sb := by omega
  have n1s : nb ≠ sb := by omega
  have n2s : m1 ≠ sb := by omega
  have n3s : m2 ≠ sb := by omega
  have jv := sv' gv n02 n03
  have jn := sv' gn n12 n13
  have js := sv' gs n2s.symm n3s.symm
  have j1 : ((G.set m1 (.map ktS (L.length + 1) (entS 0 (L ++ [e])))).set m2 (.map ktN (L.length + 1) (entN 0 (L ++ [e]))))[m1]? = some (.map ktS (L.length + 1) (entS 0 (L ++ [e]))) := by rw [List.getElem?_set_ne n23.symm]; exact gg1 _
  have j2 := gg2 (.map ktS (L.length + 1) (entS 0 (L ++ [e]))) (.map ktN (L.length + 1) (entN 0 (L ++ [e])))
  have jp : H0 <+: ((G.set m1 (.map ktS (L.length + 1) (entS 0 (L ++ [e])))).set m2 (.map ktN (L.length + 1) (entN 0 (L ++ [e])))) := by
    refine pre_set (pre_set ?_ lo1 _) lo2 _
    rw [hG]; exact hpre.trans ⟨_, rfl⟩
  have jl : ((G.set m1 (.map ktS (L.length + 1) (entS 0 (L ++ [e])))).set m2 (.map ktN (L.length + 1) (entN 0 (L ++ [e])))).length = sb + 1 := by rw [List.length_set, List.length_set, gl]
  have hle : (L ++ [e]).length = L.length + 1 := by simp
  have hps : H0.length ≤ sb := by rw [hsb]; exact hpre.length_le
  rcases hnv with ⟨rfl, rfl, rfl⟩ | ⟨b1, b2, rfl, rfl, k1, k2, lo3, lo4⟩
  · clear sv' gv gn gs g1 g2 gg1 gg2
    generalize (G.set m1 (.map ktS (([] : List Ent).length + 1) (entS 0 ([] ++ [e])))).set m2 (.map ktN (([] : List Ent).length + 1) (entN 0 ([] ++ [e]))) = G2 at *
    have lvn : vb < sb := lv
    refine W.dregD [([], [sb + 1, sb + 2]), ([], [sb + 1, sb + 2, nb]), ([], []), ([], []), ([], []), ([], []), ([], []), ([], []), ([sb + 1], []), ([], [sb + 1]), ([], [sb + 1]), ([], [sb + 1]), ([], [sb + 1]), ([], [sb + 1]), ([], [sb + 1]), ([sb + 2], []), ([], []), ([], []), ([nb], []), ([], []), ([], []), ([nb], [])] follows (by decide +kernel) rfl rfl (fun z hz b' hb' => ?_) ?_
    · simp only [List.mem_cons, List.not_mem_nil, or_false] at hz
      have e1 : G2[sb + 1]? = none := List.getElem?_eq_none (by omega)
      have e2 : G2[sb + 2]? = none := List.getElem?_eq_none (by omega)
      rcases hz with rfl | rfl | rfl | rfl | rfl | rfl | rfl | rfl | rfl | rfl | rfl | rfl | rfl | rfl | rfl | rfl | rfl | rfl | rfl | rfl | rfl | rfl <;> simp at hb' <;> subst hb' <;> first | exact ⟨by simp, by rw [jn]; simp⟩ | exact ⟨by simp, by rw [e1]; simp⟩ | exact ⟨by simp, by rw [e2]; simp⟩
    repeat (rw [DC_p]; simp (maxSteps := 2000000) (disch := omega) only [kill_c, jv, jn, js, List.getElem?_set_ne, go_sem, seval, eq_self, if_true, if_false, reduceCtorEq])
    have ja : ∀ {b : Nat} {k : ABlk}, G2[b]? = some k → ∀ l, (G2 ++ l)[b]? = some k := fun {b k} hb l => by rw [List.getElem?_append_left (List.getElem?_eq_some_iff.1 hb).1]; exact hb
    have jv' := ja jv
    have jn' := ja jn
    have js' := ja js
    have ltn : nb < G2.length := by omega
    have hap : ∀ X l, (G2 ++ l).set nb X = G2.set nb X ++ l := fun X l => List.set_append_left _ _ ltn
    have hgn : ∀ X l, (G2.set nb X ++ l)[nb]? = some X := fun X l => by rw [List.getElem?_append_left (by rw [List.length_set]; exact ltn)]; exact List.getElem?_set_self ltn
    refine WStep.ev (by simp) (by simp) ?_
    simp (maxSteps := 2000000) (disch := omega) only [jl, go_sem, seval, eq_self, if_true, if_false, reduceCtorEq]
    refine ⟨FrOk.app (u := []) (fun k hk => by simp at hk ⊢; omega) (by simp), ?_⟩
    repeat (rw [DC_p]; simp (maxSteps := 2000000) (disch := omega) only [kill_c, jv', jn', js', List.getElem?_set_ne, jl, go_sem, seval, eq_self, if_true, if_false, reduceCtorEq])
    refine WStep.ev (by simp) (by simp) ?_
    simp (maxSteps := 2000000) (disch := omega) only [jl, List.length_append, go_sem, seval, eq_self, if_true, if_false, reduceCtorEq]
    refine ⟨?_, ?_⟩
    · rw [show ∀ a b : ABlk, G2 ++ [a, b] = (G2 ++ [a]) ++ [b] from fun a b => by simp]
      exact FrOk.app (u := []) (fun k hk => by simp at hk ⊢; omega) (by simp)
    repeat (rw [DC_p]; simp (maxSteps := 2000000) (disch := omega) only [kill_c, jv', jn', js', List.getElem?_set_ne, jl, go_sem, seval, eq_self, if_true, if_false, reduceCtorEq])
    refine WStep.ev (by simp) (by simp) ?_
    simp (maxSteps := 2000000) (disch := omega) only [jn', hap, go_sem, seval, eq_self, if_true, if_false, reduceCtorEq]
    refine ⟨?_, ?_⟩
    · rw [← hap]; exact .set (by simp)
    repeat (rw [DC_p]; simp (maxSteps := 2000000) (disch := omega) only [kill_c, jv', jn', js', hgn, List.getElem?_set_ne, jl, go_sem, seval, eq_self, if_true, if_false, reduceCtorEq])
    refine WStep.ev (by simp) (by simp) ?_
    have hap2 : ∀ X Y l, (G2.set nb X ++ l).set nb Y = G2.set nb Y ++ l := fun X Y l => by rw [List.set_append_left _ _ (by rw [List.length_set]; exact ltn), List.set_set]
    simp (maxSteps := 2000000) (disch := omega) only [hgn, hap2, go_sem, seval, eq_self, if_true, if_false, reduceCtorEq]
    refine ⟨⟨rfl, fun c hc => ?_, by simp⟩, ?_⟩
    · have hnc : nb ≠ c := fun e => hc (by simp [e])
      rw [← hap, ← hap, List.getElem?_set_ne hnc, List.getElem?_set_ne hnc]
    have ap2 : ∀ {b : Nat} {k X : ABlk} {l}, G2[b]? = some k → nb ≠ b → (G2.set nb X ++ l)[b]? = some k := fun hb hne => by rw [← hap, List.getElem?_set_ne hne]; exact ja hb _
    refine Ret.keep ⟨rfl, ⟨⟨m1, m2, _, _, hgn _ _, ap2 j1 n12, ap2 j2 n13, lo1, lo2, .inr ⟨sb + 1, sb + 1 + 1, rfl, rfl, ?_, ?_, by omega, by omega⟩⟩, ?_, hlo⟩, ap2 jv n01.symm⟩
    · rw [List.getElem?_append_right (by rw [List.length_set]; omega), List.length_set, jl, Nat.sub_self]; rfl
    · rw [List.getElem?_append_right (by rw [List.length_set]; omega), List.length_set, jl, show sb + 1 + 1 - (sb + 1) = 1 by omega]; rfl
    · exact (pre_set jp hlo _).trans ⟨_, rfl⟩
  · have g3 := (old k1).2
    have g4 := (old k2).2
    have l3 := (old k1).1
    have l4 := (old k2).1
    have n04 := ne_of gv g3 (by simp)
    have n05 := ne_of gv g4 (by simp)
    have n14 := ne_of gn g3 (by simp)
    have n15 := ne_of gn g4 (by simp)
    have n24 := ne_of g1 g3 (by simp)
    have n25 := ne_of g1 g4 (by simp)
    have n34 := ne_of g2 g3 (by simp)
    have n35 := ne_of g2 g4 (by simp)
    have n45 := ne_of g3 g4 (by simp)
    have n4s : b1 ≠ sb := by omega
    have n5s : b2 ≠ sb := by omega
    have j3 := sv' g3 n24.symm n34.symm
    have j4 := sv' g4 n25.symm n35.symm
    clear sv' gv gn gs g1 g2 g3 g4 gg1 gg2
    generalize (G.set m1 (.map ktS (L.length + 1) (entS 0 (L ++ [e])))).set m2 (.map ktN (L.length + 1) (entN 0 (L ++ [e]))) = G2 at *
    have hlL : (L.map nmD).length = L.length := List.length_map ..
    have hlS : (L.map shD).length = L.length := List.length_map ..
    have lt3 : b1 < G2.length := by omega
    have lt4 : b2 < G2.length := by omega
    have ltn : nb < G2.length := by omega
    refine W.dregD [([], [b1, b2]), ([], [b1, b2, nb]), ([], []), ([], []), ([], []), ([], []), ([], []), ([], []), ([b1], []), ([], [b1]), ([], [b1]), ([], [b1]), ([], [b1]), ([], [b1]), ([], [b1]), ([b2], []), ([], []), ([], []), ([nb], []), ([], []), ([], []), ([nb], [])] follows (by decide +kernel) rfl rfl (fun z hz b' hb' => ?_) ?_
    · simp only [List.mem_cons, List.not_mem_nil, or_false] at hz
      rcases hz with rfl | rfl | rfl | rfl | rfl | rfl | rfl | rfl | rfl | rfl | rfl | rfl | rfl | rfl | rfl | rfl | rfl | rfl | rfl | rfl | rfl | rfl <;> simp at hb' <;> subst hb' <;> first | exact ⟨by simp, by rw [jn]; simp⟩ | exact ⟨by simp, by rw [j3]; simp⟩ | exact ⟨by simp, by rw [j4]; simp⟩
    repeat (rw [DC_p]; simp (maxSteps := 2000000) (disch := omega) only [kill_c, jv, jn, js, j3, j4, List.getElem?_set_ne, hlL, hlS, go_sem, seval, eq_self, if_true, if_false, reduceCtorEq])
    have hg1 : ∀ X : ABlk, (G2.set b1 X)[b2]? = G2[b2]? := fun X => List.getElem?_set_ne n45
    have hgn : ∀ X Y Z : ABlk, (((G2.set b1 X).set b2 Y).set nb Z)[nb]? = some Z := fun X Y Z => List.getElem?_set_self (by rw [List.length_set, List.length_set]; exact ltn)
    refine WStep.ev (by simp) (by simp) ?_
    simp (maxSteps := 2000000) (disch := omega) only [j3, hlL, go_sem, seval, eq_self, if_true, if_false, reduceCtorEq]
    refine ⟨.set (by simp), ?_⟩
    repeat (rw [DC_p]; simp (maxSteps := 2000000) (disch := omega) only [kill_c, jv, jn, js, j4, List.getElem?_set_ne, List.set_set, hlL, hlS, go_sem, seval, eq_self, if_true, if_false, reduceCtorEq])
    refine WStep.ev (by simp) (by simp) ?_
    simp (maxSteps := 2000000) (disch := omega) only [j4, hg1, hlS, go_sem, seval, eq_self, if_true, if_false, reduceCtorEq]
    refine ⟨.set (by simp), ?_⟩
    repeat (rw [DC_p]; simp (maxSteps := 2000000) (disch := omega) only [kill_c, jv, jn, js, List.getElem?_set_ne, go_sem, seval, eq_self, if_true, if_false, reduceCtorEq])
    refine WStep.ev (by simp) (by simp) ?_
    simp (maxSteps := 2000000) (disch := omega) only [jn, List.getElem?_set_ne, go_sem, seval, eq_self, if_true, if_false, reduceCtorEq]
    refine ⟨.set (by simp), ?_⟩
    repeat (rw [DC_p]; simp (maxSteps := 2000000) (disch := omega) only [kill_c, jv, js, hgn, List.getElem?_set_ne, go_sem, seval, eq_self, if_true, if_false, reduceCtorEq])
    refine WStep.ev (by simp) (by simp) ?_
    simp (maxSteps := 2000000) (disch := omega) only [hgn, List.set_set, go_sem, seval, eq_self, if_true, if_false, reduceCtorEq]
    refine ⟨⟨rfl, fun c hc => ?_, by simp⟩, ?_⟩
    · have hnc : nb ≠ c := fun e => hc (by simp [e])
      rw [List.getElem?_set_ne hnc, List.getElem?_set_ne hnc]
    refine Ret.keep ⟨rfl, ⟨⟨m1, m2, _, _, List.getElem?_set_self (by rw [List.length_set, List.length_set]; exact ltn), ?_, ?_, lo1, lo2, .inr ⟨b1, b2, by rw [List.map_append]; rfl, by rw [List.map_append]; rfl, ?_, ?_, lo3, lo4⟩⟩, pre_set (pre_set (pre_set jp lo3 _) lo4 _) hlo _, hlo⟩, ?_⟩
    · rw [List.getElem?_set_ne n12, List.getElem?_set_ne n25.symm, List.getElem?_set_ne n24.symm, hle]; exact j1
    · rw [List.getElem?_set_ne n13, List.getElem?_set_ne n35.symm, List.getElem?_set_ne n34.symm, hle]; exact j2
    · rw [List.getElem?_set_ne n14, List.getElem?_set_ne n45.symm, List.getElem?_set_self lt3, hle]
    · rw [List.getElem?_set_ne n15, List.getElem?_set_self (by rw [List.length_set]; exact lt4), hle]
    · rw [List.getElem?_set_ne n01.symm, List.getElem?_set_ne n05.symm, List.getElem?_set_ne n04.symm]; exact jv
end Go.Proofs.YtmgmoamcbnkbfaaGreatDoor
