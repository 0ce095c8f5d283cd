/- Contracts of the kit's over the model, as contracts over abstract values. -/
import Derived.Test.YtmgmoamcbnkbfaaGreatDoorYFrz
import Derived.Sort.Grow
import Derived.Test.YtmgmoamcbnkbfaaGreatDoorYM1
import Derived.Test.YtmgmoamcbnkbfaaGreatDoorYShelf
set_option linter.unusedVariables false
set_option linter.unusedSimpArgs false
set_option linter.unusedSectionVars false
namespace Go.Proofs.YtmgmoamcbnkbfaaGreatDoor
open Go.RowKit

abbrev sv (s : ByteArray) : AV := .d (.v (.string s))
abbrev bs (l : List UInt8) : ByteArray := ⟨l.toArray⟩
theorem add_ok {a b : List UInt8} (h : a.length + b.length ≤ 1000000) : (IntKind.i64.max < ((a.toArray.size + b.toArray.size : Nat) : Int)) = False := eq_false (by
  have h1 : IntKind.i64.max = 9223372036854775807 := by decide
  simp only [List.size_toArray]
  omega)
theorem bs_app (a b : List UInt8) : bs a ++ bs b = bs (a ++ b) := by
  apply ByteArray.ext
  rw [ByteArray.data_append]
  simp
theorem bs_size (l : List UInt8) : (bs l).size = l.length := List.size_toArray
section
variable {P : Program} {σ : Sg} {H : List ABlk} {w w' : World}
/-- What leaves all that was there as it stood leaves the abstract heap. -/
theorem HR.below (h : HR σ H w) (hb : Below w.heap.size w w') : HR σ H w' ∧ Ext σ H w σ H w' := by
  refine ⟨⟨⟨fun a v hm => ?_, h.mem.gl, h.mem.sz.to fun t ht c e f hc => ⟨c, e, f, ?_, rfl⟩⟩, fun b k hk => ?_, h.fresh, h.inj⟩, ⟨.refl σ, hb.os, hb.tape, hb.output, hb.size, fun k hk _ => hb.block k hk, fun k hk => .inl hk, fun a ha => absurd rfl ha, fun b hd => ⟨hd, fun _ => rfl⟩⟩⟩
  · have hlt := h.Mlt hm
    have h1 := h.mem.cell a v hm
    unfold World.cell? at h1 ⊢
    rw [hb.block _ hlt]
    exact h1
  · exact (hb.block _ (lt_of_heap hc)).trans hc
  · exact (h.blk b k hk).keep (.refl σ) (fun _ => rfl) fun v g hl hv hc => ⟨hb.block _ ((h.blk b k hk).lt hl hv hc), fun _ _ => rfl⟩
theorem below_drewN {B : Nat} {a w : World} (h : Below B a w) (n : Nat) : Below B a (w.drewN n) := ⟨h.os, h.tape, h.output, h.size, h.block⟩
theorem below_grow {B : Nat} {a w : World} (h : Below B a w) (hB : B ≤ w.heap.size) (os : Array Obj) : Below B a (Go.Sort.grow w os) :=
  ⟨h.os, h.tape, h.output, Nat.le_trans h.size (by simp [Go.Sort.grow]), fun k hk => by
    have : (Go.Sort.grow w os).heap[k]? = w.heap[k]? := by
      show (w.heap ++ os)[k]? = _
      rw [Array.getElem?_append_left (by omega)]
    exact this.trans (h.block k hk)⟩
/-- A call that tells a value and leaves all as it stood. -/
theorem ACalls.ofCalls {f : FuncId} {args : List AV} {x : AV} (h : ∀ (σ : Sg) (w : World) (vs : List Value), HR σ H w → VRs σ args vs → Calls P f vs.toArray w fun e w' => ∃ u, e = .returned u ∧ VR σ x u ∧ Below w.heap.size w w') :
    ACalls P f args H fun v H' => v = x ∧ H' = H := fun σ w vs h1 h2 => (h σ w vs h1 h2).mono fun e w' he => by
  obtain ⟨u, e1, e2, e3⟩ := he
  obtain ⟨k1, k2⟩ := h1.below e3
  exact ⟨σ, H, x, u, e1, k2, k1, e2, rfl, rfl⟩
/-- A call that tells a new row of strings. -/
theorem ACalls.ofStrs {f : FuncId} {args : List AV} {t : TypeId} {l : List ByteArray} (hl : l.length ≤ maxLen)
    (h : ∀ (σ : Sg) (w : World) (vs : List Value), HR σ H w → VRs σ args vs → Calls P f vs.toArray w fun e w' => e = .returned (.slice (some ⟨w.heap.size, 0, none⟩) l.length l.length) ∧ w' = w.alloc (.cells (l.map Value.string).toArray t)) :
    ACalls P f args H fun v H' => v = .d (.sl (l.map fun s => [.v (.string s)])) ∧ H' = H := fun σ w vs h1 h2 => (h σ w vs h1 h2).mono fun e w' he => by
  obtain ⟨rfl, rfl⟩ := he
  obtain ⟨σ', k1, k2, k3, _⟩ := h1.allocM t (l.map Value.string).toArray
  refine ⟨σ', H, _, _, rfl, k1, k2, .d ?_, rfl, rfl⟩
  by_cases h0 : l = []
  · subst h0; exact .nil
  · have hlen : (l.map fun s => [Dat.v (.string s)]).length = l.length := by simp
    have := VD.sl (M := σ'.M) (es := l.map fun s => [Dat.v (.string s)]) (a := ⟨w.heap.size, 0, none⟩) (cap := l.length) (sz := 1) (fun i _ => .string (l.getD i ⟨#[]⟩)) (by simpa using h0) (by simp) hl (by simp) (fun i e j d he hd => ?_) (fun i e j d he hd => ?_)
    · rw [hlen] at this; exact this
    · rw [List.getElem?_map] at he
      obtain ⟨s, hs, rfl⟩ := Option.map_eq_some_iff.1 he
      have hj : j = 0 := by
        cases j with
        | zero => rfl
        | succ j => simp at hd
      subst hj
      rw [addr_lit]
      have := k3 (i * 1 + 0) (.string s) (by simp [hs])
      simpa [List.getD_eq_getElem?_getD, hs] using this
    · rw [List.getElem?_map] at he
      obtain ⟨s, hs, rfl⟩ := Option.map_eq_some_iff.1 he
      have hj : j = 0 := by
        cases j with
        | zero => rfl
        | succ j => simp at hd
      subst hj
      simp at hd
      subst hd
      simp only [List.getD_eq_getElem?_getD, hs, Option.getD_some]
      exact .v rfl
theorem VR.eqV {x : Value} {u : Value} (h : VR σ (.d (.v x)) u) : u = x := by
  cases h with | d hd => cases hd; rfl
theorem VRs.one_inv {x : AV} {us : List Value} (h : VRs σ [x] us) : ∃ u, us = [u] ∧ VR σ x u := by
  obtain ⟨u, us', rfl, h1, h2⟩ := h.cons_inv
  have h3 := h2.1
  have h4 : us' = [] := List.eq_nil_of_length_eq_zero (by simpa using h3.symm)
  exact ⟨u, by rw [h4], h1⟩
theorem VRs.two_inv {x y : AV} {us : List Value} (h : VRs σ [x, y] us) : ∃ u v, us = [u, v] ∧ VR σ x u ∧ VR σ y v := by
  obtain ⟨u, us', rfl, h1, h2⟩ := h.cons_inv
  obtain ⟨v, rfl, h3⟩ := h2.one_inv
  exact ⟨u, v, rfl, h1, h3⟩
theorem VR.tupL {cs : List AV} {us : List Value} (h : VRs σ cs us) : VR σ (.tup cs) (.tuple us.toArray) := .tup h.1 h.2
/-- The cells of a table's block. -/
theorem HR.tab (h : HR σ H w) {t : Nat × IntKind × List Int} (ht : t ∈ glTabs) : ∃ e f, w.heap[t.1]? = some (.cells (t.2.2.map fun z => Value.int t.2.1 z).toArray e f) := by
  obtain ⟨c, e, f, hc, hs⟩ := h.mem.sz t ht
  refine ⟨e, f, ?_⟩
  rw [hc]
  congr 2
  apply Array.ext_getElem?
  intro i
  by_cases hi : i < t.2.2.length
  · have h1 := h.mem.cell _ _ (h.mem.gl.2 t ht i _ (List.getElem?_eq_getElem hi))
    unfold World.cell? at h1
    simp only [hc, Option.isSome_none, Bool.false_eq_true, if_false] at h1
    rw [h1]
    simp [List.getElem?_eq_getElem hi]
  · rw [Array.getElem?_eq_none (by omega), Array.getElem?_eq_none (by simp; omega)]
theorem HR.cellT (h : HR σ H w) {t : Nat × IntKind × List Int} (ht : t ∈ glTabs) {i : Nat} {x : Int} (hx : t.2.2[i]? = some x) : w.cell? ⟨t.1, i, none⟩ = some (.int t.2.1 x) := h.mem.cell _ _ (h.mem.gl.2 t ht i x hx)
theorem HR.maxLen (h : HR σ H w) : ∃ m : Int, w.cell? ⟨0, 0, none⟩ = some (.int .i64 m) := h.mem.gl.1.imp fun _ hm => h.mem.cell _ _ hm
end
end Go.Proofs.YtmgmoamcbnkbfaaGreatDoor

/- The library's functions: contracts over abstract values. -/
namespace Go.Proofs.YtmgmoamcbnkbfaaGreatDoor
set_option linter.unusedSimpArgs false
set_option linter.unusedVariables false
set_option maxRecDepth 20000
open Go.RowKit

theorem hasPrefix_c (s p : ByteArray) (H : List ABlk) : ACalls Tryz.prog 30 [sv s, sv p] H fun v H' => v = bv (Lib.hasPrefix s.data.toList p.data.toList) ∧ H' = H :=
  ACalls.ofCalls fun σ w vs h1 h2 => by
    obtain ⟨u, v, rfl, e1, e2⟩ := h2.two_inv
    rw [e1.eqV, e2.eqV]
    refine (Tryz.strings_HasPrefix s p w).mono fun e w' he => ?_
    obtain ⟨rfl, rfl⟩ := he
    exact ⟨_, rfl, .plain rfl, .refl _ _⟩
theorem cutPrefix_c (s p : ByteArray) (H : List ABlk) : ACalls Tryz.prog 84 [sv s, sv p] H fun v H' => v = .tup [sv ⟨(Lib.trimPrefix s.data.toList p.data.toList).toArray⟩, bv (Lib.hasPrefix s.data.toList p.data.toList)] ∧ H' = H :=
  ACalls.ofCalls fun σ w vs h1 h2 => by
    obtain ⟨u, v, rfl, e1, e2⟩ := h2.two_inv
    rw [e1.eqV, e2.eqV]
    refine (Tryz.strings_CutPrefix s p w).mono fun e w' he => ?_
    obtain ⟨rfl, rfl⟩ := he
    exact ⟨_, rfl, VR.tupL (.cons (.plain rfl) (.cons (.plain rfl) .nil)), .refl _ _⟩
theorem cut_c (s p : ByteArray) (hs : s.size < 4294967281) (H : List ABlk) : ACalls Tryz.prog 14 [sv s, sv p] H fun v H' => v = .tup [sv ⟨(Lib.cut s.data.toList p.data.toList).1.toArray⟩, sv ⟨(Lib.cut s.data.toList p.data.toList).2.1.toArray⟩, bv (Lib.cut s.data.toList p.data.toList).2.2] ∧ H' = H :=
  ACalls.ofCalls fun σ w vs h1 h2 => by
    obtain ⟨u, v, rfl, e1, e2⟩ := h2.two_inv
    rw [e1.eqV, e2.eqV]
    obtain ⟨m, hm⟩ := h1.maxLen
    refine (Tryz.strings_Cut s p m w hs hm).mono fun e w' he => ?_
    obtain ⟨rfl, n, rfl⟩ := he
    exact ⟨_, rfl, VR.tupL (.cons (.plain rfl) (.cons (.plain rfl) (.cons (.plain rfl) .nil))), below_drewN (Below.refl _ _) n⟩
theorem count1_c (s : ByteArray) (c : UInt8) (H : List ABlk) : ACalls Tryz.prog 12 [sv s, sv ⟨#[c]⟩] H fun v H' => v = iv (Lib.countByte s.data.toList c) ∧ H' = H :=
  ACalls.ofCalls fun σ w vs h1 h2 => by
    obtain ⟨u, v, rfl, e1, e2⟩ := h2.two_inv
    rw [e1.eqV, e2.eqV]
    refine (Tryz.strings_Count_one s c w).mono fun e w' he => ?_
    obtain ⟨rfl, rfl⟩ := he
    exact ⟨_, rfl, .plain rfl, .refl _ _⟩
theorem split_c (s p : ByteArray) (hs : s.size < 4294967281) (hp : 1 ≤ p.size) (hc : Lib.countB s p + 1 ≤ maxLen) (H : List ABlk) : ACalls Tryz.prog 53 [sv s, sv p] H fun v H' => v = .d (.sl ((Lib.splitB p 0 (Lib.countB s p) s).map fun x => [.v (.string x)])) ∧ H' = H := by
  have hl : (Lib.splitB p 0 (Lib.countB s p) s).length = Lib.countB s p + 1 := Lib.splitB_all p hp 0 _ s rfl
  refine ACalls.ofStrs (t := 9) (by rw [hl]; exact hc) fun σ w vs h1 h2 => ?_
  obtain ⟨u, v, rfl, e1, e2⟩ := h2.two_inv
  rw [e1.eqV, e2.eqV]
  obtain ⟨m, hm⟩ := h1.maxLen
  refine (Tryz.strings_Split s p m w hs hm hp).mono fun e w' he => ?_
  rw [hl]
  exact he
theorem tabIs_a {σ : Sg} {H : List ABlk} {w : World} (h : HR σ H w) : Lib.TabIs Tryz.prog w "strings.asciiSpace" .u8 Lib.asciiSpaceTab := by
  obtain ⟨e, f, hc⟩ := h.tab (t := (1, .u8, Lib.asciiSpaceTab)) (by simp [glTabs])
  have hg : Tryz.prog.globalNamed "strings.asciiSpace" = some 1 := by kernel_rfl
  simp only [Lib.TabIs, World.var?, hg, Option.bind_some, hc]
theorem tabIs_p {σ : Sg} {H : List ABlk} {w : World} (h : HR σ H w) : Lib.TabIs Tryz.prog w "internal/strconv.uint64pow10" .u64 Lib.pow10Tab := by
  obtain ⟨e, f, hc⟩ := h.tab (t := (5, .u64, Lib.pow10Tab)) (by simp [glTabs])
  have hg : Tryz.prog.globalNamed "internal/strconv.uint64pow10" = some 5 := by kernel_rfl
  simp only [Lib.TabIs, World.var?, hg, Option.bind_some, hc]
theorem fields_c (s : ByteArray) (hs : s.size < 4294967281) (ha : ∀ (j : Nat) b, s.data.toList[j]? = some b → b.toNat < 128) (hc : (Lib.fields s.data.toList).length ≤ maxLen) (H : List ABlk) :
    ACalls Tryz.prog 28 [sv s] H fun v H' => v = .d (.sl ((Lib.fields s.data.toList).map fun x => [.v (.string ⟨x.toArray⟩)])) ∧ H' = H := by
  have := ACalls.ofStrs (P := Tryz.prog) (H := H) (f := 28) (args := [sv s]) (t := 9) (l := (Lib.fields s.data.toList).map fun x => ⟨x.toArray⟩) (by rw [List.length_map]; exact hc) fun σ w vs h1 h2 => by
    obtain ⟨u, rfl, e1⟩ := h2.one_inv
    rw [e1.eqV]
    refine (Tryz.strings_Fields s w hs ha (tabIs_a h1)).mono fun e w' he => ?_
    rw [List.length_map, List.map_map]
    exact he
  rw [List.map_map] at this
  exact this
theorem itoa_c (n : Int) (h0 : -9223372036854775808 ≤ n) (hn : n ≤ 9223372036854775807) (H : List ABlk) : ACalls Tryz.prog 36 [iv n] H fun v H' => v = sv ⟨(Lib.itoa n).toArray⟩ ∧ H' = H :=
  ACalls.ofCalls fun σ w vs h1 h2 => by
    obtain ⟨u, rfl, e1⟩ := h2.one_inv
    rw [e1.eqV]
    refine (Tryz.strconv_Itoa n h0 hn w (tabIs_p h1)).mono fun e w' he => ?_
    obtain ⟨rfl, k, os, rfl⟩ := he
    exact ⟨_, rfl, .plain rfl, below_grow (below_drewN (Below.refl _ _) k) (Nat.le_refl _) os⟩
theorem atoi_c (s : ByteArray) (hs : s.size ≤ 9223372036854775806) (n : Int) (hn : Lib.atoiAll s.data.toList = .ok n) (H : List ABlk) : ACalls Tryz.prog 85 [sv s] H fun v H' => v = .tup [iv n, .d (.v .nilIface)] ∧ H' = H :=
  ACalls.ofCalls fun σ w vs h1 h2 => by
    obtain ⟨u, rfl, e1⟩ := h2.one_inv
    rw [e1.eqV]
    refine (Tryz.strconv_Atoi_ok s hs n hn w).mono fun e w' he => ?_
    obtain ⟨rfl, he⟩ := he
    refine ⟨_, rfl, VR.tupL (.cons (.plain rfl) (.cons (.plain rfl) .nil)), ?_⟩
    rcases he with rfl | ⟨t, rfl⟩
    · exact .refl _ _
    · exact Lib.below_freeze ((Below.drew (Below.refl _ _)).alloc (Nat.le_refl _) _) (Nat.le_refl _) _
theorem repeat_c (s : ByteArray) (n : Nat) (hn : s.size * n ≤ 140737488355328) (hm : n ≤ 9223372036854775807) (h0 : 0 < s.size) (H : List ABlk) : ACalls Tryz.prog 38 [sv s, iv n] H fun v H' => v = sv ⟨(Lib.repeatL s.data.toList n).toArray⟩ ∧ H' = H :=
  ACalls.ofCalls fun σ w vs h1 h2 => by
    obtain ⟨u, v, rfl, e1, e2⟩ := h2.two_inv
    rw [e1.eqV, e2.eqV]
    match n, hn, hm with
    | 0, _, _ =>
      refine (Tryz.strings_Repeat_zero s w).mono fun e w' he => ?_
      obtain ⟨rfl, rfl⟩ := he
      exact ⟨_, rfl, .plain rfl, .refl _ _⟩
    | 1, _, _ =>
      refine (Tryz.strings_Repeat_one s w).mono fun e w' he => ?_
      obtain ⟨rfl, rfl⟩ := he
      refine ⟨_, rfl, ?_, .refl _ _⟩
      have : (⟨(Lib.repeatL s.data.toList 1).toArray⟩ : ByteArray) = s := by simp [Lib.repeatL]
      rw [this]; exact .plain rfl
    | n + 2, hn, hm =>
      refine (Tryz.strings_Repeat_main s (n + 2) w (by omega) hm hn h0).mono fun e w' he => ?_
      obtain ⟨rfl, he⟩ := he
      exact ⟨_, rfl, .plain rfl, he⟩
theorem tz16_c (H : List ABlk) : ACalls Tryz.prog 129 [.d (.v (.int .u64 16))] H fun v H' => v = iv 4 ∧ H' = H :=
  ACalls.ofCalls fun σ w vs h1 h2 => by
    obtain ⟨u, rfl, e1⟩ := h2.one_inv
    rw [e1.eqV]
    have hT : TabAt 7 Lib.deBruijn64tab w := fun j hj => by
      refine h1.cellT (t := (7, .u8, Lib.deBruijn64tab.map Int.ofNat)) (by simp [glTabs]) ?_
      rw [List.getElem?_map, List.getElem?_eq_getElem hj]
      simp [List.getD_eq_getElem?_getD, List.getElem?_eq_getElem hj]
    refine (Any7.bits_TrailingZeros Tryz.lays27 16 (by decide) w fun _ => hT).mono fun e w' he => ?_
    obtain ⟨rfl, rfl⟩ := he
    exact ⟨_, rfl, .plain rfl, .refl _ _⟩
end Go.Proofs.YtmgmoamcbnkbfaaGreatDoor
