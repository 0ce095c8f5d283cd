/-
  One's own library, part 5j: maps; keys; values that are compared cell by cell.
-/
import Derived.Test.YtalhmnijkkihgaaSndB
namespace Go.Proofs.Ytalhmnijkkihgaa
set_option linter.unusedVariables false
set_option linter.unusedSimpArgs false
set_option linter.unusedSectionVars false
open Go.RowKit

section
variable {P : Program} {o : Oper} {a : Act} {σ : Sg} {H : List ABlk} {w : World} {s : List AV}

/-! ### keys -/
theorem fitL_length : ∀ {kk : List KC} {cs : List Value}, fitL kk cs = true → cs.length = kk.length
  | [], [], _ => rfl
  | [], _ :: _, h => by simp [fitL] at h
  | _ :: _, [], h => by simp [fitL] at h
  | k :: kk, c :: cs, h => by simp [fitL] at h; simp [fitL_length h.2]
theorem fitL_append : ∀ {a b : List KC} {cs : List Value}, fitL (a ++ b) cs = true → fitL a (cs.take a.length) = true ∧ fitL b (cs.drop a.length) = true
  | [], b, cs, h => by simp [fitL]; simpa using h
  | k :: a, b, [], h => by simp [fitL] at h
  | k :: a, b, c :: cs, h => by
    simp only [List.cons_append, fitL, Bool.and_eq_true] at h
    obtain ⟨h1, h2⟩ := fitL_append h.2
    exact ⟨by simp [fitL, h.1, h1], by simpa using h2⟩

theorem mapM_some {α β : Type} {f : α → Option β} : ∀ {l : List α}, (∀ x ∈ l, ∃ y, f x = some y) → ∃ ys, l.mapM f = some ys
  | [], _ => ⟨[], rfl⟩
  | x :: l, h => by
    obtain ⟨y, hy⟩ := h x (by simp)
    obtain ⟨ys, hys⟩ := mapM_some (l := l) (fun z hz => h z (by simp [hz]))
    exact ⟨y :: ys, by simp [List.mapM_cons, hy, hys]⟩

theorem fits_rep {ke : List KC} : ∀ {n i : Nat} {cs : List Value}, fitL (List.replicate n ke).flatten cs = true → i < n → fitL ke ((cs.drop (i * ke.length)).take ke.length) = true
  | 0, i, cs, _, hi => by omega
  | n + 1, i, cs, h, hi => by
    rw [List.replicate_succ, List.flatten_cons] at h
    obtain ⟨h1, h2⟩ := fitL_append h
    cases i with
    | zero => simpa using h1
    | succ i =>
      have := fits_rep h2 (i := i) (by omega)
      rw [List.drop_drop] at this
      rw [Nat.succ_mul, Nat.add_comm (i * ke.length)]
      exact this

theorem fits_fields (P : Program) (d : Nat) (cs : List Value) (ih : ∀ t kk, flatK P d t = some kk → P.tiled d t = true → P.keyTypeAt d t = true → kk.length = P.cellsOf t ∧ ∀ cs, fitL kk cs = true → ∃ l, P.keyLits d t cs = some l) :
    ∀ (fs : List Field) (off tot : Nat) (kks : List (List KC)), (fs.mapM fun f => flatK P d f.type) = some kks → P.runs off fs = some tot → (∀ f ∈ fs, P.tiled d f.type = true ∧ P.keyTypeAt d f.type = true) →
      tot = off + kks.flatten.length ∧ (fitL kks.flatten (cs.drop off) = true → ∀ f ∈ fs, ∃ l, P.keyLits d f.type ((cs.drop f.offset).take (P.cellsOf f.type)) = some l)
  | [], off, tot, kks, hm, hr, _ => by
    simp at hm; subst hm
    simp [Program.runs] at hr
    exact ⟨by simp [hr], fun _ f hf => by simp at hf⟩
  | f :: fs, off, tot, kks, hm, hr, hall => by
    simp only [List.mapM_cons, Option.bind_eq_bind, Option.bind_eq_some_iff] at hm
    obtain ⟨kf, hkf, kr, hkr, hm⟩ := hm
    simp at hm; subst hm
    simp only [Program.runs] at hr
    split at hr
    · rename_i ho
      have hf := hall f (by simp)
      obtain ⟨h1, h2⟩ := ih _ _ hkf hf.1 hf.2
      obtain ⟨h3, h4⟩ := fits_fields P d cs ih fs _ tot kr hkr hr (fun g hg => hall g (by simp [hg]))
      refine ⟨by rw [h3, ← h1]; simp; omega, fun hfit g hg => ?_⟩
      rw [List.flatten_cons] at hfit
      obtain ⟨k1, k2⟩ := fitL_append hfit
      rcases List.mem_cons.1 hg with rfl | hg
      · rw [ho, ← h1]
        exact h2 _ k1
      · rw [List.drop_drop] at k2
        exact h4 (by rw [← h1]; exact k2) g hg
    · cases hr

theorem lits_of_flat (P : Program) : ∀ (d : Nat) (t : TypeId) (kk : List KC), flatK P d t = some kk → P.tiled d t = true → P.keyTypeAt d t = true → kk.length = P.cellsOf t ∧ ∀ cs, fitL kk cs = true → ∃ l, P.keyLits d t cs = some l
  | 0, t, kk, h, _, _ => by simp [flatK] at h
  | d + 1, t, kk, h, ht, hk => by
    unfold flatK at h
    unfold Program.tiled at ht
    unfold Program.keyTypeAt at hk
    split at h
    · rename_i hu
      split at h
      · rename_i h1
        cases h
        refine ⟨by simp [h1], fun cs hf => ?_⟩
        match cs, hf with
        | [v], hf =>
          cases v with
          | bool b => exact ⟨_, by simp [Program.keyLits, hu]; rfl⟩
          | _ => simp [fitL, kcFit] at hf
        | [], hf => simp [fitL] at hf
        | c :: c' :: cs, hf => simp [fitL] at hf
      · cases h
    · rename_i k hu
      split at h
      · rename_i h1
        cases h
        refine ⟨by simp [h1], fun cs hf => ?_⟩
        match cs, hf with
        | [v], hf =>
          cases v with
          | int k' n =>
            simp [fitL, kcFit] at hf
            obtain ⟨rfl, h2, h3⟩ := hf
            exact ⟨_, by simp [Program.keyLits, hu, Lit.wf, h2, h3]; rfl⟩
          | _ => simp [fitL, kcFit] at hf
        | [], hf => simp [fitL] at hf
        | c :: c' :: cs, hf => simp [fitL] at hf
      · cases h
    · rename_i hu
      split at h
      · rename_i h1
        cases h
        refine ⟨by simp [h1], fun cs hf => ?_⟩
        match cs, hf with
        | [v], hf =>
          cases v with
          | string b =>
            simp [fitL, kcFit] at hf
            exact ⟨_, by simp [Program.keyLits, hu, hf]; rfl⟩
          | _ => simp [fitL, kcFit] at hf
        | [], hf => simp [fitL] at hf
        | c :: c' :: cs, hf => simp [fitL] at hf
      · cases h
    · rename_i n e hu
      simp only [Option.map_eq_some_iff] at h
      obtain ⟨ke, hke, rfl⟩ := h
      simp only [hu, Bool.and_eq_true, beq_iff_eq] at ht hk
      obtain ⟨h1, h2⟩ := lits_of_flat P d e ke hke ht.2 hk
      have hlen : (List.replicate n ke).flatten.length = P.cellsOf t := by
        rw [List.length_flatten, List.map_replicate, List.sum_replicate_nat, ht.1, h1]
      refine ⟨hlen, fun cs hf => ?_⟩
      have hcl := fitL_length hf
      obtain ⟨ys, hys⟩ := mapM_some (l := List.range n) (f := fun i => P.keyLits d e ((cs.drop (i * P.cellsOf e)).take (P.cellsOf e))) (fun i hi => by
        rw [← h1]
        exact h2 _ (fits_rep hf (List.mem_range.1 hi)))
      exact ⟨_, by simp only [Program.keyLits, hu]; rw [if_pos (by rw [hcl, hlen]), hys]; rfl⟩
    · rename_i fs hu
      simp only [Option.map_eq_some_iff] at h
      obtain ⟨kks, hkk, rfl⟩ := h
      simp only [hu, Bool.and_eq_true, beq_iff_eq] at ht hk
      have hall : ∀ f ∈ fs.toList, P.tiled d f.type = true ∧ P.keyTypeAt d f.type = true := fun f hf => by
        have h1 := Array.all_eq_true_iff_forall_mem.1 ht.2 f (Array.mem_toList_iff.1 hf)
        have h2 := Array.all_eq_true_iff_forall_mem.1 hk.1.1 f (Array.mem_toList_iff.1 hf)
        simp only [Bool.and_eq_true] at h2
        exact ⟨h1, h2.2⟩
      have ih := fun t kk => lits_of_flat P d t kk
      have hlen := (fits_fields P d [] ih fs.toList 0 _ kks hkk ht.1 hall).1
      refine ⟨by omega, fun cs hf => ?_⟩
      have hcl := fitL_length hf
      obtain ⟨_, h4⟩ := fits_fields P d cs ih fs.toList 0 _ kks hkk ht.1 hall
      obtain ⟨ys, hys⟩ := mapM_some (l := fs.toList) (h4 (by simpa using hf))
      refine ⟨ys.flatten, ?_⟩
      simp only [Program.keyLits, hu]
      have hnm : (fs.all fun x => x.name != "_") = true := by
        rw [Array.all_eq_true_iff_forall_mem]
        intro f hf
        have h2 := Array.all_eq_true_iff_forall_mem.1 hk.1.1 f hf
        simp only [Bool.and_eq_true] at h2
        exact h2.1
      rw [if_pos ⟨by rw [hcl]; omega, hnm⟩, hys]; rfl
    · cases h

theorem ktOf_law {t : TypeId} {kt : KT} (h : ktOf P t = some kt) : WideMaps.KeyLaw P t ∧ ∀ v, keyFits kt v = true → ∃ l, Go.keyOf P t v = some l := by
  unfold ktOf at h
  split at h
  · rename_i hs
    cases h
    have hs' : P.underlying t = some .string := by
      unfold isStrT at hs; split at hs
      · assumption
      · cases hs
    refine ⟨WideMaps.string_law hs', fun v hv => ?_⟩
    cases v with
    | string b =>
      simp [keyFits, kcFit] at hv
      exact ⟨_, WideMaps.keyOf_string_mk hs' hv⟩
    | _ => simp [keyFits, kcFit] at hv
  · split at h
    · rename_i _ hc
      simp only [Bool.and_eq_true, decide_eq_true_eq] at hc
      obtain ⟨⟨⟨⟨hw, hk⟩, ht⟩, hsz⟩, _⟩ := hc
      simp only [Option.map_eq_some_iff] at h
      obtain ⟨kk, hkk, rfl⟩ := h
      have hwide : (match P.underlying t with | some (.array _ _) | some (.struct _) => true | _ => false) = true := hw
      refine ⟨Go.deep_law (m := P.types.size + 1) hsz hk ht hwide, fun v hv => ?_⟩
      obtain ⟨h1, h2⟩ := lits_of_flat P _ t kk hkk ht hk
      cases v with
      | agg cs =>
        have hf : fitL kk cs.toList = true := by
          cases kk <;> simpa [keyFits] using hv
        obtain ⟨l, hl⟩ := h2 _ hf
        have hcs := fitL_length hf
        rw [Array.length_toList] at hcs
        unfold Go.keyOf
        unfold wideT at hw
        split at hw
        · rename_i n e hu
          simp only [hu]
          rw [if_pos (by simp [hk, Value.formed, hu, hcs, h1]), show (Value.agg cs).cells = cs from rfl, hl]
          exact ⟨_, rfl⟩
        · rename_i fs hu
          simp only [hu]
          rw [if_pos (by simp [hk, Value.formed, hu, hcs, h1]), show (Value.agg cs).cells = cs from rfl, hl]
          exact ⟨_, rfl⟩
        · cases hw
      | _ => cases kk <;> simp [keyFits] at hv
    · cases h

theorem keq1_iff {k : KC} {a b : Value} (ha : kcFit k a = true) (hb : kcFit k b = true) : keq1 a b = true ↔ a = b := by
  cases k <;> cases a <;> simp [kcFit] at ha <;> cases b <;> simp [kcFit] at hb <;> simp [keq1] <;> (obtain ⟨rfl, _⟩ := ha; obtain ⟨rfl, _⟩ := hb; simp)
theorem keqL_iff : ∀ {kk : List KC} {a b : List Value}, fitL kk a = true → fitL kk b = true → (keqL a b = true ↔ a = b)
  | [], [], [], _, _ => by simp [keqL]
  | [], _ :: _, _, h, _ => by simp [fitL] at h
  | [], [], _ :: _, _, h => by simp [fitL] at h
  | _ :: _, [], _, h, _ => by simp [fitL] at h
  | _ :: _, _ :: _, [], _, h => by simp [fitL] at h
  | k :: kk, x :: a, y :: b, ha, hb => by
    simp only [fitL, Bool.and_eq_true] at ha hb
    simp [keqL, keq1_iff ha.1 hb.1, keqL_iff ha.2 hb.2]
theorem keq_iff {kt : KT} {a b : Value} (ha : keyFits kt a = true) (hb : keyFits kt b = true) : keq a b = true ↔ a = b := by
  obtain ⟨ag, kk⟩ := kt
  cases ag with
  | true =>
    cases a with
    | agg x =>
      cases b with
      | agg y =>
        have hx : fitL kk x.toList = true := by cases kk <;> simpa [keyFits] using ha
        have hy : fitL kk y.toList = true := by cases kk <;> simpa [keyFits] using hb
        rw [keq, keqL_iff hx hy]
        simp
      | _ => cases kk <;> simp [keyFits] at hb
    | _ => cases kk <;> simp [keyFits] at ha
  | false =>
    match kk, ha, hb with
    | [k], ha, hb =>
      have hx : kcFit k a = true := by simpa [keyFits] using ha
      have hy : kcFit k b = true := by simpa [keyFits] using hb
      rw [← keq1_iff hx hy]
      cases a <;> first | rfl | (cases k <;> simp [kcFit] at hx)
    | [], ha, _ => simp [keyFits] at ha
    | _ :: _ :: _, ha, _ => simp [keyFits] at ha

theorem keyOf1_sound {x : AV} {u v : Value} (h : VR σ x u) (hk : keyOf1 x = some v) : u = v := by
  unfold keyOf1 at hk
  split at hk
  · split at hk
    · cases hk; exact h.plain_inv.1
    · cases hk
  · cases hk
theorem keysOf_sound : ∀ {xs : List AV} {us vs : List Value}, VRs σ xs us → keysOf xs = some vs → us = vs
  | [], us, vs, h, hk => by
    simp [keysOf] at hk; subst hk
    exact List.eq_nil_of_length_eq_zero h.1.symm
  | x :: xs, us, vs, h, hk => by
    obtain ⟨u, us', rfl, h1, h2⟩ := h.cons_inv
    simp only [keysOf] at hk
    split at hk
    · rename_i v vs' e1 e2
      cases hk
      rw [keyOf1_sound h1 e1, keysOf_sound h2 e2]
    · cases hk
theorem keyOf_sound {x : AV} {u v : Value} (h : VR σ x u) (hk : keyOf x = some v) : u = v := by
  unfold keyOf at hk
  split at hk
  · split at hk
    · cases hk; exact h.plain_inv.1
    · cases hk
  · split at hk
    · rename_i l e
      cases hk
      cases h with
      | agg h1 h2 => rw [keysOf_sound ⟨h1, h2⟩ e]
    · cases hk
  · cases hk

/-! ### maps -/
theorem mapT_spec {t k e : TypeId} (h : mapT P t = some (k, e)) : P.underlying t = some (.map k e) := by
  unfold mapT at h
  simp only [Option.bind_eq_some_iff] at h
  obtain ⟨d, hd, h⟩ := h
  split at h
  · cases h; exact hd
  · cases h
theorem mapI_spec {t : TypeId} {kt : KT} {z : AV} (h : mapI P t = some (kt, z)) : ∃ k e, P.underlying t = some (.map k e) ∧ ktOf P k = some kt ∧ ((P.info? e).bind (·.zero)).bind cst1 = some z := by
  unfold mapI at h
  split at h
  · rename_i k e hm
    split at h
    · rename_i kt' z' h1 h2
      cases h
      exact ⟨k, e, mapT_spec hm, h1, h2⟩
    · cases h
  · cases h

/-- How the entries of a map lie. -/
structure MR (σ : Sg) (kt : KT) (es : List (Value × AV × Nat)) (ms : List MapEntry) : Prop where
  vals : VRs σ (es.map (·.2.1)) (ms.map (·.val))
  keys : ms.map (·.key) = es.map (·.1)
  borns : ms.map (·.born) = es.map (·.2.2)
  fits : ∀ e ∈ es, keyFits kt e.1 = true
  nodup : (es.map (·.1)).Nodup

theorem MR.nil {kt : KT} : MR σ kt [] [] := ⟨.nil, rfl, rfl, fun _ h => by simp at h, by simp⟩
theorem MR.cons {kt : KT} {e : Value × AV × Nat} {m : MapEntry} {es : List (Value × AV × Nat)} {ms : List MapEntry} (h : MR σ kt es ms) (hv : VR σ e.2.1 m.val) (hk : m.key = e.1) (hb : m.born = e.2.2) (hf : keyFits kt e.1 = true) (hn : ∀ e' ∈ es, e'.1 ≠ e.1) :
    MR σ kt (e :: es) (m :: ms) := by
  refine ⟨.cons hv h.vals, by simp [hk, h.keys], by simp [hb, h.borns], fun x hx => ?_, ?_⟩
  · rcases List.mem_cons.1 hx with rfl | hx
    · exact hf
    · exact h.fits x hx
  · rw [List.map_cons, List.nodup_cons]
    refine ⟨fun hc => ?_, h.nodup⟩
    obtain ⟨x, hx, hxe⟩ := List.mem_map.1 hc
    exact hn x hx hxe
theorem MR.cons_inv {kt : KT} {e : Value × AV × Nat} {es : List (Value × AV × Nat)} {ms : List MapEntry} (h : MR σ kt (e :: es) ms) :
    ∃ m ms', ms = m :: ms' ∧ VR σ e.2.1 m.val ∧ m.key = e.1 ∧ m.born = e.2.2 ∧ keyFits kt e.1 = true ∧ (∀ e' ∈ es, e'.1 ≠ e.1) ∧ MR σ kt es ms' := by
  match ms, h with
  | [], h => have := h.keys; simp at this
  | m :: ms', h =>
    have hk := h.keys
    have hb := h.borns
    have hv := h.vals
    have hn := h.nodup
    simp only [List.map_cons, List.cons.injEq] at hk hb
    rw [List.map_cons, List.map_cons] at hv
    obtain ⟨u, us, hu, h1, h2⟩ := hv.cons_inv
    cases hu
    rw [List.map_cons, List.nodup_cons] at hn
    exact ⟨m, ms', rfl, h1, hk.1, hb.1, h.fits e (by simp), fun e' he' hc => hn.1 (hc ▸ List.mem_map_of_mem he'), ⟨h2, hk.2, hb.2, fun x hx => h.fits x (by simp [hx]), hn.2⟩⟩
theorem MR.length {kt : KT} : ∀ {es : List (Value × AV × Nat)} {ms : List MapEntry}, MR σ kt es ms → ms.length = es.length := fun h => by
  have := congrArg List.length h.keys; simpa using this

/-- The place of a key. -/
def keyIx : List (Value × AV × Nat) → Value → Option Nat
  | [], _ => none
  | e :: r, k => if keq e.1 k then some 0 else (keyIx r k).map (· + 1)
theorem keyIx_none {kt : KT} : ∀ {es : List (Value × AV × Nat)} {k : Value}, (∀ e ∈ es, keyFits kt e.1 = true) → keyFits kt k = true → (∀ e ∈ es, e.1 ≠ k) → keyIx es k = none ∧ mapGet es k = none
  | [], _, _, _, _ => ⟨rfl, rfl⟩
  | e :: r, k, h1, h2, h3 => by
    obtain ⟨a, b⟩ := keyIx_none (es := r) (fun x hx => h1 x (by simp [hx])) h2 (fun x hx => h3 x (by simp [hx]))
    have hne : ¬ keq e.1 k = true := fun hc => h3 e (by simp) ((keq_iff (h1 e (by simp)) h2).1 hc)
    simp [keyIx, mapGet, hne, a, b]
theorem keyIx_some {kt : KT} : ∀ {es : List (Value × AV × Nat)} {k : Value} {j : Nat} {e : Value × AV × Nat}, (∀ e ∈ es, keyFits kt e.1 = true) → keyFits kt k = true → (es.map (·.1)).Nodup → es[j]? = some e → e.1 = k → keyIx es k = some j ∧ mapGet es k = some e.2
  | [], _, _, _, _, _, _, h, _ => by simp at h
  | x :: r, k, 0, e, h1, h2, _, h, hk => by
    simp at h; subst h
    have : keq x.1 k = true := (keq_iff (h1 x (by simp)) h2).2 hk
    simp [keyIx, mapGet, this]
  | x :: r, k, j + 1, e, h1, h2, hn, h, hk => by
    simp at h
    rw [List.map_cons, List.nodup_cons] at hn
    obtain ⟨a, b⟩ := keyIx_some (fun x hx => h1 x (by simp [hx])) h2 hn.2 h hk
    have hne : ¬ keq x.1 k = true := fun hc => by
      have hxk := (keq_iff (h1 x (by simp)) h2).1 hc
      exact hn.1 (by rw [hxk, ← hk]; exact List.mem_map_of_mem (List.mem_of_getElem? h))
    simp [keyIx, mapGet, hne, a, b]

/-- What the search for a key gives. -/
theorem find_sound {kt : KT} {kty : TypeId} {es : List (Value × AV × Nat)} {ms : List MapEntry} {k : Value} (hkt : ktOf P kty = some kt) (hm : MR σ kt es ms) (hk : keyFits kt k = true) :
    ((Instr.findKey kty k ms).run P w = .ok none w ∧ mapGet es k = none ∧ ∀ e ∈ es, e.1 ≠ k) ∨
    ∃ (j : Nat) (e : Value × AV × Nat) (m : MapEntry), (Instr.findKey kty k ms).run P w = .ok (some (j, m.val)) w ∧ es[j]? = some e ∧ ms[j]? = some m ∧ mapGet es k = some e.2 ∧ keyIx es k = some j ∧ e.1 = k ∧ m.key = k ∧ m.born = e.2.2 ∧ VR σ e.2.1 m.val := by
  obtain ⟨law, hf⟩ := ktOf_law hkt
  obtain ⟨lx, hx⟩ := hf k hk
  have hall : ∀ e ∈ ms, ∃ l, Go.keyOf P kty e.key = some l := fun e he => by
    have hmem : e.key ∈ es.map (·.1) := hm.keys ▸ List.mem_map_of_mem he
    obtain ⟨x, hx, hxe⟩ := List.mem_map.1 hmem
    exact hxe ▸ hf _ (hm.fits x hx)
  have hget : ∀ (i : Nat) (m : MapEntry), ms[i]? = some m → ∃ e, es[i]? = some e ∧ m.key = e.1 ∧ m.born = e.2.2 ∧ VR σ e.2.1 m.val := fun i m hi => by
    have hlt : i < es.length := by rw [← hm.length]; exact (List.getElem?_eq_some_iff.1 hi).1
    have he := List.getElem?_eq_getElem hlt
    have h1 := congrArg (·[i]?) hm.keys
    have h2 := congrArg (·[i]?) hm.borns
    simp [hi, he] at h1 h2
    refine ⟨es[i], he, h1, h2, hm.vals.2 i _ _ (by simp [he]) (by simp [hi])⟩
  rcases law.find w hx ms hall with ⟨h1, h2⟩ | ⟨j, m, h1, h2, h3⟩
  · have hne : ∀ e ∈ es, e.1 ≠ k := fun e he hc => by
      have hmem : e.1 ∈ ms.map (·.key) := hm.keys ▸ List.mem_map_of_mem he
      obtain ⟨m, hm', hme⟩ := List.mem_map.1 hmem
      exact h2 m hm' (hme.trans hc)
    exact .inl ⟨h1, (keyIx_none hm.fits hk hne).2, hne⟩
  · obtain ⟨e, he, k1, k2, k3⟩ := hget j m h2
    obtain ⟨a, b⟩ := keyIx_some hm.fits hk hm.nodup he (k1.symm.trans h3)
    exact .inr ⟨j, e, m, h1, he, h2, b, a, k1.symm.trans h3, h3, k2, k3⟩

theorem mapSet_eq : ∀ {es : List (Value × AV × Nat)} {k : Value} {j : Nat} {v : AV}, keyIx es k = some j → mapSet es k v = es.modify j fun e => (e.1, v, e.2.2)
  | [], _, _, _, h => by simp [keyIx] at h
  | e :: r, k, j, v, h => by
    simp only [keyIx] at h
    split at h
    · rename_i hc
      cases h
      simp [mapSet, hc]
    · rename_i hc
      simp only [Option.map_eq_some_iff] at h
      obtain ⟨i, hi, rfl⟩ := h
      simp [mapSet, hc, mapSet_eq hi]
theorem mapDel_eq : ∀ {es : List (Value × AV × Nat)} {k : Value} {j : Nat}, keyIx es k = some j → mapDel es k = es.eraseIdx j
  | [], _, _, h => by simp [keyIx] at h
  | e :: r, k, j, h => by
    simp only [keyIx] at h
    split at h
    · rename_i hc
      cases h
      simp [mapDel, hc]
    · rename_i hc
      simp only [Option.map_eq_some_iff] at h
      obtain ⟨i, hi, rfl⟩ := h
      simp [mapDel, hc, mapDel_eq hi]
theorem mapDel_none : ∀ {es : List (Value × AV × Nat)} {k : Value}, mapGet es k = none → mapDel es k = es
  | [], _, _ => rfl
  | e :: r, k, h => by
    simp only [mapGet] at h
    split at h
    · cases h
    · rename_i hc
      simp [mapDel, hc, mapDel_none h]
end
end Go.Proofs.Ytalhmnijkkihgaa
