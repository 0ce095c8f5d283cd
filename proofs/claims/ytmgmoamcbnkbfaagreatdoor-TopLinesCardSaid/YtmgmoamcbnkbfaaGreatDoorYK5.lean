/- strings.Builder: what it tells. -/
import Derived.Test.YtmgmoamcbnkbfaaGreatDoorYK3
set_option linter.unusedVariables false
set_option linter.unusedSimpArgs false
set_option linter.unusedSectionVars false
namespace Go.Proofs.YtmgmoamcbnkbfaaGreatDoor
set_option linter.unusedSimpArgs false
set_option linter.unusedVariables false
set_option maxRecDepth 100000
set_option maxHeartbeats 2000000
open Go.RowKit Go.Shelf

theorem str_w (b g cap : Nat) (cur : Array Value) (l : List UInt8) (w : World) (c0 : w.cell? ⟨b, 1, none⟩ = some (.slice (some ⟨g, 0, none⟩) l.length cap)) (hg : w.heap[g]? = some (.cells cur 5 (0, 0))) (hcp : l.length ≤ cap) (hcm : l.length ≤ maxLen) (hcs : l.length ≤ cur.size) (h0 : l ≠ [])
    (hcl : ∀ (j : Nat) (x : UInt8), l[j]? = some x → w.cell? ⟨g, j, none⟩ = some (.int .u8 x.toNat)) :
    Calls Tryz.prog 20 #[.pointer (some ⟨b, 0, none⟩)] w fun e w' => e = .returned (.string ⟨l.toArray⟩) ∧ w' = w.drew.freeze ⟨g, 0, none⟩ l.length := by
  have hl0 : l.length ≠ 0 := by simpa using h0
  have c1 : w.drew.cell? ⟨b, 1, none⟩ = some (.slice (some ⟨g, 0, none⟩) l.length cap) := c0
  have hSD : (Builtin.unsafeSliceData_ #[48] 95 #[.slice (some ⟨g, 0, none⟩) l.length cap]).run Tryz.prog w.drew = .ok (.pointer (some ⟨g, 0, none⟩)) w.drew :=
    Lib.run_unsafeSliceData_row _ _ _ _ _ _ (by omega)
  have hUS : (Builtin.unsafeString_ #[95, 3] 9 #[.pointer (some ⟨g, 0, none⟩), .int .i64 l.length]).run Tryz.prog w.drew = .ok (.string ⟨l.toArray⟩) (w.drew.freeze ⟨g, 0, none⟩ l.length) := by
    refine Lib.run_unsafeString_row w.drew 95 3 9 5 Tryz.underlying95 Tryz.Builder_Extra_169.cellsByte g cur.size (by have hg' : w.drew.heap[g]? = some (.cells cur 5 (0, 0)) := hg; simp [World.shape?, hg']) l h0 (by omega) (by unfold maxLen at hcm; omega) ?_
    intro j x hx
    rw [addr_lit, Nat.zero_add]
    exact hcl j x hx
  go_enter Tryz.func20, Tryz.ntmps20
  go_wp2
  go_region
  all_goals (go_wp2; go_ret; exact ⟨rfl, rfl⟩)
/-- Bytes as data. -/
abbrev by8 (c : UInt8) : List Dat := [.v (.int .u8 c.toNat)]
theorem freeze_heap {w : World} {g k n : Nat} (h : k ≠ g) : (w.freeze ⟨g, 0, none⟩ n).heap[k]? = w.heap[k]? := by
  unfold World.freeze
  split
  · rfl
  · simp [Array.getElem?_modify, Ne.symm h]
theorem freeze_at {w : World} {g n : Nat} {c : Array Value} {e : TypeId} {f : Nat × Nat} (h : w.heap[g]? = some (.cells c e f)) : ∃ f', (w.freeze ⟨g, 0, none⟩ n).heap[g]? = some (.cells c e f') := by
  have hlt : g < w.heap.size := (Array.getElem?_eq_some_iff.1 h).1
  have hv : w.heap[g] = .cells c e f := (Array.getElem?_eq_some_iff.1 h).2
  unfold World.freeze
  split
  · exact ⟨_, h⟩
  · simp only [Array.getElem?_modify, if_true, Array.getElem?_eq_getElem hlt, hv, Option.map_some]
    exact ⟨_, rfl⟩
theorem freeze_cell {w : World} {g n : Nat} {c : Array Value} {e : TypeId} {f : Nat × Nat} (h : w.heap[g]? = some (.cells c e f)) (a : Addr) : (w.freeze ⟨g, 0, none⟩ n).cell? a = w.cell? a := by
  by_cases e : a.block = g
  · obtain ⟨f', h2⟩ := freeze_at (n := n) h
    unfold World.cell?
    rw [e, h, h2]
  · unfold World.cell?
    rw [freeze_heap e]
theorem freeze_rest (w : World) (a : Addr) (n : Nat) : (w.freeze a n).os = w.os ∧ (w.freeze a n).tape = w.tape ∧ (w.freeze a n).output = w.output ∧ (w.freeze a n).heap.size = w.heap.size := by
  unfold World.freeze
  split
  · exact ⟨rfl, rfl, rfl, rfl⟩
  · exact ⟨rfl, rfl, rfl, by simp⟩
theorem VD.plain {M : Mem} {x u : Value} (h : VD M (.v x) u) : u = x := by cases h; rfl
/-- A row that is frozen is let go. -/
theorem HR.frz {σ : Sg} {H : List ABlk} {w : World} (h : HR σ H w) {ob e sz n g m : Nat} {v : Value} (ho : H[ob]? = some (.row e sz n)) (hφ : σ.φ ob n = some v) (hv : conc v = some g) {c : Array Value} {t : TypeId} {f : Nat × Nat} (hg : w.heap[g]? = some (.cells c t f)) :
    Ext σ H w σ (H.set ob .dead) (w.freeze ⟨g, 0, none⟩ m) ∧ HR σ (H.set ob .dead) (w.freeze ⟨g, 0, none⟩ m) := by
  have hl0 : ob < H.length := (List.getElem?_eq_some_iff.1 ho).1
  obtain ⟨r1, r2, r3, r4⟩ := freeze_rest w ⟨g, 0, none⟩ m
  refine ⟨⟨.refl σ, r1, r2, r3, by rw [r4]; exact Nat.le_refl _, fun k hk hf => freeze_heap fun e => hf ?_, fun k hk => .inl (foot_die hk), fun a ha => absurd rfl ha, fun b hb => ?_⟩, ?_⟩
  · subst e; exact ⟨ob, _, v, ho, rfl, hφ, hv⟩
  · refine ⟨?_, fun _ => rfl⟩
    by_cases e : b = ob
    · subst e; exact List.getElem?_set_self hl0
    · rw [List.getElem?_set_ne (Ne.symm e)]; exact hb
  · refine h.turn (.refl σ) ob .dead (fun b hne => by rw [List.getElem?_set_ne (Ne.symm hne)]) (List.getElem?_set_self hl0) (by simp) (fun _ _ _ => rfl) ⟨fun a x hm => ?_, h.mem.gl, h.mem.sz.to fun t0 ht0 c0 e0 f0 hc => ?_⟩ trivial fun b k x g' hne hk hl hx hc => ⟨freeze_heap fun e => hne ?_, fun _ _ => rfl, fun v0 hd => by cases hd⟩
    · rw [freeze_cell hg]; exact h.mem a x hm
    · by_cases e : t0.1 = g
      · rw [e] at hc ⊢
        obtain ⟨f', h2⟩ := freeze_at (n := m) hc
        exact ⟨_, _, _, h2, rfl⟩
      · exact ⟨_, _, _, (freeze_heap e).trans hc, rfl⟩
    · subst e; exact h.inj b ob k _ x v g' hk ho hl rfl hx hφ hc hv
theorem string1_c {H : List ABlk} {b ob : Nat} {p : AV} {l : List UInt8} (hb : H[b]? = some (.cells [p, .gsl ob 1 (l.map by8)])) (ho : H[ob]? = some (.row 5 1 l.length)) (h0 : l ≠ []) :
    ACalls Tryz.prog 20 [.ptr b 0] H fun v H' => v = sv ⟨l.toArray⟩ ∧ H' = H.set ob .dead := fun σ w vs h1 h2 => by
  obtain ⟨u, rfl, e1⟩ := h2.one_inv
  have hl0 : 0 < l.length := List.length_pos_iff.2 h0
  cases e1 with
  | ptr hφ =>
    rename_i gb
    obtain ⟨vs, t, q1, q2, q3, q4⟩ := h1.cellsAt hb hφ
    obtain ⟨v, xs, k1, k2, k3, k4⟩ := h1.blk ob _ ho
    rcases k2 with ⟨hz, _⟩ | ⟨g, cap, cur, hcap, rfl, hh, hnc, hcm, hcs, htk⟩
    · omega
    have hcg : conc (.slice (some ⟨g, 0, none⟩) l.length cap) = some g := by simp [conc]; omega
    -- the second cell is the row's value
    have hvs : ∃ u0 u1 us, vs.toList = u0 :: u1 :: us ∧ VR σ (.gsl ob 1 (l.map by8)) u1 := by
      have hlen := q3.1
      cases hq : vs.toList with
      | nil => rw [hq] at hlen; simp at hlen
      | cons u0 us =>
        cases us with
        | nil => rw [hq] at hlen; simp at hlen
        | cons u1 us => exact ⟨u0, u1, us, rfl, q3.2 1 _ u1 rfl (by rw [hq]; rfl)⟩
    obtain ⟨u0, u1, us, hvl, hv1⟩ := hvs
    cases hv1 with
    | gsl f1 f2 f3 =>
      rw [List.length_map, k1] at f1
      cases f1
      have c0 : w.cell? ⟨gb, 1, none⟩ = some (.slice (some ⟨g, 0, none⟩) l.length cap) := by
        have : vs[1]? = some (.slice (some ⟨g, 0, none⟩) l.length cap) := by rw [← Array.getElem?_toList, hvl]; rfl
        simp [World.cell?, q2, this]
      have hcl : ∀ (j : Nat) (x : UInt8), l[j]? = some x → w.cell? ⟨g, j, none⟩ = some (.int .u8 x.toNat) := fun j x hx => by
        have hj : (l.map by8)[j]? = some (by8 x) := by rw [List.getElem?_map, hx]; rfl
        obtain ⟨a, cp, e1, -, e3⟩ := f3.sl_cells
        obtain ⟨-, ad, sz, e4, n4, u', n5, n6⟩ := e3 (by simpa using h0)
        simp only [Value.slice.injEq] at e1
        rw [← e1.1] at e4
        cases e4
        have hsz : sz = 1 := by have := n4 (by8 x) (List.mem_of_getElem? hj); simpa using this.symm
        subst hsz
        have m1 := n5 j _ 0 _ hj rfl
        have m2 := (n6 j _ 0 _ hj rfl)
        rw [addr_lit] at m1
        have m3 := h1.mem.cell _ _ m1
        rw [m2.plain] at m3
        simpa using m3
      refine (str_w gb g cap cur l w c0 hh hnc (by omega) (by omega) h0 hcl).mono fun e w' he => ?_
      obtain ⟨rfl, rfl⟩ := he
      obtain ⟨x1, x2⟩ := (h1.drew).frz (m := l.length) ho k1 hcg (w := w.drew) hh
      exact ⟨σ, _, _, _, rfl, (Ext.drew σ H w).trans x1, x2, .plain rfl, rfl, rfl⟩
theorem string0_c {H : List ABlk} {b : Nat} (hb : H[b]? = some (.bld 50)) : ACalls Tryz.prog 20 [.ptr b 0] H fun v H' => v = sv ⟨#[]⟩ ∧ H' = H :=
  ACalls.ofCalls fun σ w vs h1 h2 => by
    obtain ⟨u, rfl, e1⟩ := h2.one_inv
    cases e1 with
    | ptr hφ =>
      rename_i g
      obtain ⟨g', k1, k2, k3, k4⟩ := h1.blk b _ hb
      rw [hφ] at k1
      cases k1
      refine (Any.Builder_String_nil Tryz.lays169 Tryz.Builder_Extra_169 w.heap.size g _ w k3).mono fun e w' he => ?_
      obtain ⟨rfl, he⟩ := he
      exact ⟨_, rfl, .plain rfl, he⟩
end Go.Proofs.YtmgmoamcbnkbfaaGreatDoor

/- strings.Builder: writing. -/
namespace Go.Proofs.YtmgmoamcbnkbfaaGreatDoor
set_option linter.unusedSimpArgs false
set_option linter.unusedVariables false
set_option maxRecDepth 20000
set_option maxHeartbeats 1000000
open Go.RowKit

theorem datss_str : ∀ l : List UInt8, datss (l.map fun b => [AV.d (.v (.int .u8 b.toNat))]) = some (l.map by8)
  | [] => rfl
  | b :: l => by simp only [List.map_cons, datss, datss_str l, toDats, toDat]
/-- A builder that has taken these bytes. -/
structure BS (H0 H : List ABlk) (b : Nat) (L : List UInt8) : Prop where
  pre : H0 <+: H
  lo : H0.length ≤ b
  st : (L = [] ∧ H[b]? = some (.bld 50)) ∨ ∃ ob, H[b]? = some (.cells [.ptr b 0, .gsl ob 1 (L.map by8)]) ∧ H[ob]? = some (.row 5 1 L.length) ∧ H0.length ≤ ob
theorem writeS_c {H0 H : List ABlk} {b : Nat} {L : List UInt8} (h : BS H0 H b L) (s : ByteArray) (hs : L.length + s.size ≤ 1000000) :
    ACalls Tryz.prog 18 [.ptr b 0, sv s] H fun v H' => v = .tup [iv s.size, .d (.v .nilIface)] ∧ BS H0 H' b (L ++ s.data.toList) := by
  have hsz : s.data.toList.length = s.size := Array.length_toList
  have he : ∀ H : List ABlk, elemsA H 1 (sv s) = some (s.data.toList.map fun b => [AV.d (.v (.int .u8 b.toNat))]) := fun H => by rw [elems_s, if_pos rfl]
  have hd := datss_str s.data.toList
  have hlen : (s.data.toList.map by8).length = s.size := by rw [List.length_map, hsz]
  have hlo := h.lo
  rcases h.st with ⟨rfl, hb⟩ | ⟨ob, hb, ho, hob⟩
  · have hlt : b < H.length := (List.getElem?_eq_some_iff.1 hb).1
    have hg : ∀ x l, (H.set b x ++ l)[b]? = some x := fun x l => by rw [List.getElem?_append_left (by rw [List.length_set]; exact hlt)]; exact List.getElem?_set_self hlt
    have hg0 : ∀ x, (H.set b x)[b]? = some x := fun x => List.getElem?_set_self hlt
    have hss : ∀ x y l, (H.set b x ++ l).set b y = H.set b y ++ l := fun x y l => by rw [List.set_append_left _ _ (by rw [List.length_set]; exact hlt), List.set_set]
    refine ACalls.into Tryz.func18 cc18 rr18 fun hcl => ?_
    simp (maxSteps := 2000000) (disch := omega) only [Tryz.ntmps18, c18, r18, go_sem, seval, eq_self, if_true, if_false, reduceCtorEq]
    refine Cont.mk (copy0_c hb) ?_
    simp (maxSteps := 2000000) (disch := omega) only [hg, hg0, hss, he, hd, hlen, List.length_set, go_sem, seval, eq_self, if_true, if_false, reduceCtorEq]
    refine Ret.keep ⟨rfl, (pre_set h.pre hlo _).trans ⟨_, rfl⟩, hlo, .inr ⟨H.length, hg _ _, ?_, by have := h.pre.length_le; omega⟩⟩
    rw [List.getElem?_append_right (by rw [List.length_set]; exact Nat.le_refl _), List.length_set, Nat.sub_self, hsz]
    rfl
  · have hne : b ≠ ob := fun e => by rw [e, ho] at hb; cases hb
    have hlt : b < H.length := (List.getElem?_eq_some_iff.1 hb).1
    have hol : ob < H.length := (List.getElem?_eq_some_iff.1 ho).1
    have hgb : ∀ x : ABlk, (H.set ob x)[b]? = H[b]? := fun x => List.getElem?_set_ne hne.symm
    have hLl : (L.map by8).length = L.length := List.length_map ..
    refine ACalls.into Tryz.func18 cc18 rr18 fun hcl => ?_
    simp (maxSteps := 2000000) (disch := omega) only [Tryz.ntmps18, c18, r18, go_sem, seval, eq_self, if_true, if_false, reduceCtorEq]
    refine Cont.mk (copy1_c hb) ?_
    simp (maxSteps := 2000000) (disch := omega) only [hb, ho, hgb, he, hd, hlen, hLl, go_sem, seval, eq_self, if_true, if_false, reduceCtorEq]
    refine Ret.keep ⟨rfl, pre_set (pre_set h.pre hob _) hlo _, hlo, .inr ⟨ob, ?_, ?_, hob⟩⟩
    · rw [List.getElem?_set_self (by rw [List.length_set]; exact hlt), List.map_append]
    · rw [List.getElem?_set_ne hne, List.getElem?_set_self hol, List.length_append, hsz]
theorem writeB_c {H0 H : List ABlk} {b : Nat} {L : List UInt8} (h : BS H0 H b L) (c : UInt8) (hs : L.length ≤ 1000000) :
    ACalls Tryz.prog 19 [.ptr b 0, .d (.v (.int .u8 c.toNat))] H fun v H' => v = .d (.v .nilIface) ∧ BS H0 H' b (L ++ [c]) := by
  have hlo := h.lo
  rcases h.st with ⟨rfl, hb⟩ | ⟨ob, hb, ho, hob⟩
  · have hlt : b < H.length := (List.getElem?_eq_some_iff.1 hb).1
    have hg : ∀ x l, (H.set b x ++ l)[b]? = some x := fun x l => by rw [List.getElem?_append_left (by rw [List.length_set]; exact hlt)]; exact List.getElem?_set_self hlt
    have hg0 : ∀ x, (H.set b x)[b]? = some x := fun x => List.getElem?_set_self hlt
    have hss : ∀ x y l, (H.set b x ++ l).set b y = H.set b y ++ l := fun x y l => by rw [List.set_append_left _ _ (by rw [List.length_set]; exact hlt), List.set_set]
    refine ACalls.into Tryz.func19 cc19 rr19 fun hcl => ?_
    simp (maxSteps := 2000000) (disch := omega) only [Tryz.ntmps19, c19, r19, go_sem, seval, eq_self, if_true, if_false, reduceCtorEq]
    refine Cont.mk (copy0_c hb) ?_
    simp (maxSteps := 2000000) (disch := omega) only [hg, hg0, hss, List.length_set, go_sem, seval, eq_self, if_true, if_false, reduceCtorEq]
    refine Ret.keep ⟨rfl, (pre_set h.pre hlo _).trans ⟨_, rfl⟩, hlo, .inr ⟨H.length, hg _ _, ?_, by have := h.pre.length_le; omega⟩⟩
    rw [List.getElem?_append_right (by rw [List.length_set]; exact Nat.le_refl _), List.length_set, Nat.sub_self]
    rfl
  · have hne : b ≠ ob := fun e => by rw [e, ho] at hb; cases hb
    have hlt : b < H.length := (List.getElem?_eq_some_iff.1 hb).1
    have hol : ob < H.length := (List.getElem?_eq_some_iff.1 ho).1
    have hgb : ∀ x : ABlk, (H.set ob x)[b]? = H[b]? := fun x => List.getElem?_set_ne hne.symm
    have hLl : (L.map by8).length = L.length := List.length_map ..
    refine ACalls.into Tryz.func19 cc19 rr19 fun hcl => ?_
    simp (maxSteps := 2000000) (disch := omega) only [Tryz.ntmps19, c19, r19, go_sem, seval, eq_self, if_true, if_false, reduceCtorEq]
    refine Cont.mk (copy1_c hb) ?_
    simp (maxSteps := 2000000) (disch := omega) only [hb, ho, hgb, hLl, go_sem, seval, eq_self, if_true, if_false, reduceCtorEq]
    refine Ret.keep ⟨rfl, pre_set (pre_set h.pre hob _) hlo _, hlo, .inr ⟨ob, ?_, ?_, hob⟩⟩
    · rw [List.getElem?_set_self (by rw [List.length_set]; exact hlt), List.map_append]; rfl
    · rw [List.getElem?_set_ne hne, List.getElem?_set_self hol, List.length_append]; rfl
end Go.Proofs.YtmgmoamcbnkbfaaGreatDoor
