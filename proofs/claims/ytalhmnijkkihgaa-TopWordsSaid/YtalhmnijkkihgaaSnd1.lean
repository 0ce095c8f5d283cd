/-
  One's own library, part 5: each operation does what the evaluator says.
-/
import Derived.Test.YtalhmnijkkihgaaComp
namespace Go.Proofs.Ytalhmnijkkihgaa
set_option linter.unusedVariables false
set_option linter.unusedSimpArgs false
set_option linter.unusedSectionVars false
open Go.RowKit

def OpOk (P : Program) (o : Oper) (a : Act) (σ : Sg) (H : List ABlk) (w : World) (v : AV) (H' : List ABlk) : Prop :=
  ∃ σ' w' u, ((execOp a.eval o).run P w = .ok (.value u) w' ∨ ((execOp a.eval o).run P w = .ok .skip w' ∧ u = undef)) ∧ Ext σ H w σ' H' w' ∧ HR σ' H' w' ∧ VR σ' v u

theorem OpOk.pure {P : Program} {o : Oper} {a : Act} {σ : Sg} {H : List ABlk} {w : World} {v : AV} {u : Value} (h : HR σ H w) (hr : (execOp a.eval o).run P w = .ok (.value u) w) (hv : VR σ v u) : OpOk P o a σ H w v H :=
  ⟨σ, w, u, .inl hr, .refl .., h, hv⟩

theorem VR.plain {σ : Sg} {x : Value} (h : plainV x = true) : VR σ (.d (.v x)) x := .d (.v h)
theorem VR.plain_inv {σ : Sg} {x u : Value} (h : VR σ (.d (.v x)) u) : u = x ∧ plainV x = true := by
  cases h with
  | d h => cases h with
    | v h => exact ⟨rfl, h⟩
theorem VR.esl_inv {σ : Sg} {u : Value} (h : VR σ .esl u) : ∃ a, u = .slice a 0 0 := by cases h; exact ⟨_, rfl⟩

theorem cst1_sound {σ : Sg} {v : Value} {x : AV} (h : cst1 v = some x) : VR σ x v := by
  unfold cst1 at h
  split at h
  · cases h; exact .esl
  · cases h; exact .nilp
  · cases h; exact .mnil
  · split at h
    · cases h; exact .plain (by assumption)
    · cases h
theorem mapM_cst1 {σ : Sg} : ∀ {vs : List Value} {xs : List AV}, vs.mapM cst1 = some xs → VRs σ xs vs
  | [], xs, h => by simp at h; subst h; exact .nil
  | v :: vs, xs, h => by
    simp only [List.mapM_cons, Option.bind_eq_bind, Option.bind_eq_some_iff] at h
    obtain ⟨x, hx, ys, hy, h⟩ := h
    simp at h; subst h
    exact .cons (cst1_sound hx) (mapM_cst1 hy)
theorem cst_sound {σ : Sg} {v : Value} {x : AV} (h : cst v = some x) : VR σ x v := by
  unfold cst at h
  split at h
  · rename_i cs
    simp only [Option.map_eq_some_iff] at h
    obtain ⟨xs, hx, rfl⟩ := h
    have := mapM_cst1 (σ := σ) hx
    obtain ⟨l⟩ := cs
    exact .agg this.1 this.2
  · exact cst1_sound h
theorem get_sound {σ : Sg} {s : List AV} {a : Act} {x : Operand} {y : Opd} (h : opd x = some y) (hs : SS σ s a) : VR σ (get s y) (a.eval x) := by
  cases x with
  | tmp t =>
    simp only [opd, Option.some.injEq] at h; subst h
    have := hs.tmps.getD t undef
    simpa [get, Act.eval] using this
  | const v =>
    simp only [opd, Option.map_eq_some_iff] at h
    obtain ⟨x, hx, rfl⟩ := h
    exact cst_sound hx
  | func f =>
    simp only [opd, Option.some.injEq] at h; subst h
    exact .fn (us := []) rfl (fun i c u h => by simp at h)
  | global g => simp [opd] at h
theorem opds_sound {σ : Sg} {s : List AV} {a : Act} (hs : SS σ s a) : ∀ {xs : List Operand} {ys : List Opd}, opds xs = some ys → VRs σ (ys.map (get s)) (xs.map a.eval)
  | [], ys, h => by simp [opds] at h; subst h; exact .nil
  | x :: xs, ys, h => by
    simp only [opds, List.mapM_cons, Option.bind_eq_bind, Option.bind_eq_some_iff] at h
    obtain ⟨y, hy, zs, hz, h⟩ := h
    simp at h; subst h
    exact .cons (get_sound hy hs) (opds_sound hs hz)

theorem cellsAV_sound {σ : Sg} {x : AV} {u : Value} (h : VR σ x u) (hs : shown x = true) : VRs σ (cellsAV x) u.cells.toList := by
  cases h with
  | any => cases hs
  | ub => exact .cons .ub .nil
  | tup => cases hs
  | agg h1 h2 => exact ⟨h1, h2⟩
  | d h =>
    cases h with
    | v hp => cases u <;> first | exact .cons (.plain hp) .nil | cases hp
    | nil => exact .cons (.d .nil) .nil
    | sl u h1 h2 hm h3 h4 h5 => exact .cons (.d (.sl u h1 h2 hm h3 h4 h5)) .nil
  | nilp => exact .cons .nilp .nil
  | mnil => exact .cons .mnil .nil
  | ptr h => exact .cons (.ptr h) .nil
  | ip u h1 h2 => exact .cons (.ip u h1 h2) .nil
  | esl => exact .cons .esl .nil
  | gsl h1 hz h2 =>
    have h3 : VR σ (.gsl _ _ _) _ := .gsl h1 hz h2
    cases h2 with
    | nil => exact .cons h3 .nil
    | sl u a b c d e f => exact .cons h3 .nil
  | hsl h1 h2 h3 h4 h5 h6 => exact .cons (.hsl h1 h2 h3 h4 h5 h6) .nil
  | hsl0 h1 => exact .cons (.hsl0 h1) .nil
  | mp h => exact .cons (.mp h) .nil
  | fn h1 h2 => exact .cons (.fn h1 h2) .nil

theorem toDat_sound {σ : Sg} {x : AV} {d : Dat} {u : Value} (h : VR σ x u) (hd : toDat x = some d) : VD σ.M d u := by
  cases h <;> simp only [toDat, Option.some.injEq, reduceCtorEq] at hd
  · subst hd; assumption
  · subst hd; exact .nil
  · subst hd; assumption
theorem toDats_sound {σ : Sg} : ∀ {xs : List AV} {ds : List Dat} {us : List Value}, VRs σ xs us → toDats xs = some ds → VDs σ.M ds us
  | [], ds, us, h, hd => by
    simp [toDats] at hd; subst hd
    have := h.1
    exact ⟨by simpa using this, fun i d u h1 => by simp at h1⟩
  | x :: xs, ds, us, h, hd => by
    obtain ⟨u, us', rfl, h1, h2⟩ := h.cons_inv
    simp only [toDats] at hd
    split at hd
    · rename_i d ds' e1 e2
      cases hd
      have ih := toDats_sound h2 e2
      refine ⟨by simp [ih.1], fun i d' u' h3 h4 => ?_⟩
      cases i with
      | zero => simp at h3 h4; subst h3; subst h4; exact toDat_sound h1 e1
      | succ i => simp at h3 h4; exact ih.2 i d' u' h3 h4
    · cases hd

section
variable {P : Program} {o : Oper} {a : Act} {σ : Sg} {H : List ABlk} {w : World} {s : List AV}

theorem ok_mv {x : Operand} {y : Opd} (ho : o.op = .move x ∨ o.op = .assign x) (hy : opd x = some y) (hs : SS σ s a) (h : HR σ H w) : OpOk P o a σ H w (get s y) H :=
  .pure h (u := a.eval x) (by rcases ho with ho | ho <;> simp [execOp, ho]) (get_sound hy hs)

/-- A nil slice becomes a row that may grow. -/
theorem HR.newRow0 {u : Value} (h : HR σ H w) (e sz : Nat) (hu : ∃ b, u = .slice b 0 0) :
    ∃ σ', Ext σ H w σ' (H ++ [.row e sz 0]) w ∧ HR σ' (H ++ [.row e sz 0]) w ∧ VR σ' (.gsl H.length sz []) u := by
  obtain ⟨b, rfl⟩ := hu
  have hnew : σ.φ H.length 0 = none := h.fresh _ _ (Nat.le_refl _)
  have hle := Sg.putφ_le (v := .slice b 0 0) hnew
  have hc : ∀ g, conc (.slice b 0 0) ≠ some g := fun g => by cases b <;> simp [conc]
  refine ⟨σ.putφ H.length 0 (.slice b 0 0), ⟨hle, rfl, rfl, rfl, Nat.le_refl _, fun _ _ _ => rfl, ?_, fun _ h => absurd rfl h, fun b hb => dead_concat hb (fun n hne => Sg.putφ_other _ _ _ _ _ hne)⟩, ?_, .gsl (Sg.putφ_same ..) (fun _ h => by cases h) .nil⟩
  · rintro k ⟨b', blk, v, hb, hl, hφ, hc'⟩
    by_cases e' : b' = H.length
    · subst e'
      simp at hb; subst hb
      rw [show ABlk.ver (.row e sz 0) = 0 from rfl, Sg.putφ_same] at hφ
      cases hφ
      exact absurd hc' (hc k)
    · rw [getElem?_concat_ne H _ e'] at hb
      rw [Sg.putφ_other _ _ _ _ _ e'] at hφ
      exact .inl ⟨b', blk, v, hb, hl, hφ, hc'⟩
  · refine h.turn hle H.length (.row e sz 0) (fun b hb => getElem?_concat_ne H _ hb) (by simp) (by simp) (fun b n hb => Sg.putφ_other _ _ _ _ _ hb) h.mem
      ⟨_, [], Sg.putφ_same .., .inl ⟨rfl, rfl, b, rfl⟩, fun m hm => ?_, fun g hg => absurd hg (hc g)⟩ fun b' k v g hb hk hl hv hcv => ⟨rfl, fun _ _ => rfl, fun v0 _ hv0 => ?_⟩
    · rw [Sg.putφ_ver _ _ _ _ (by omega)]; exact h.fresh _ _ (Nat.le_refl _)
    · rw [show ABlk.ver (.row e sz 0) = 0 from rfl, Sg.putφ_same] at hv0
      cases hv0
      exact hc g

theorem ok_box {t : TypeId} {x : Operand} {y : Opd} (ho : o.op = .box t x) (hy : opd x = some y) (hs : SS σ s a) (h : HR σ H w) (hsh : shown (get s y) = true) :
    OpOk P o a σ H w (.ptr H.length 0) (H ++ [.cells (cellsAV (get s y))]) := by
  obtain ⟨σ', h1, h2, h3, _⟩ := h.alloc t (cellsAV_sound (get_sound hy hs) hsh)
  refine ⟨σ', _, _, .inl ?_, h1, h2, h3⟩
  simp [execOp, ho, Instr.box, newVar, newRow]

theorem zeroOf_spec {t : TypeId} {z : List AV} (h : zeroOf P t = some z) : ∃ i zv, P.info? t = some i ∧ i.zero = some zv ∧ ∀ σ, VRs σ z zv.cells.toList := by
  unfold zeroOf at h
  simp only [Option.bind_eq_some_iff] at h
  obtain ⟨zv, ⟨i, hi, hz⟩, hm⟩ := h
  exact ⟨i, zv, hi, hz, fun σ => mapM_cst1 hm⟩

theorem run_zeroValue {t : TypeId} {i : TypeInfo} {zv : Value} (h : P.info? t = some i) (hz : i.zero = some zv) (w : World) : (zeroValue t).run P w = .ok zv w := by
  simp [zeroValue, typeInfo, h, hz]

theorem ok_alloc {t : TypeId} {z : List AV} (ho : o.op = .alloc t) (hz : zeroOf P t = some z) (h : HR σ H w) :
    OpOk P o a σ H w (.ptr H.length 0) (H ++ [.cells z]) := by
  obtain ⟨i, zv, hi, hzv, hv⟩ := zeroOf_spec hz
  obtain ⟨σ', h1, h2, h3, _⟩ := h.alloc t (hv σ)
  refine ⟨σ', _, _, .inl ?_, h1, h2, h3⟩
  simp [execOp, ho, Instr.alloc, run_zeroValue hi hzv, newVar, newRow]

theorem loadA_sound {x : AV} {u : Value} {n : Nat} {cs : List AV} (h : HR σ H w) (hx : VR σ x u) (hl : loadA H x n = some cs) :
    ∃ ad us, u = .pointer (some ad) ∧ (loadCells ad n).run P w = .ok us.toArray w ∧ VRs σ cs us ∧ us.length = n ∧ (n = 1 → ∃ c, us = [c] ∧ w.cell? ad = some c) := by
  have fin : ∀ (ad : Addr) (us : List Value), us.length = n → (∀ j v, us[j]? = some v → w.cell? (ad.add j) = some v) → (loadCells ad n).run P w = .ok us.toArray w ∧ (n = 1 → ∃ c, us = [c] ∧ w.cell? ad = some c) := by
    intro ad us hn hc
    refine ⟨by rw [← hn]; exact run_loadCells_list w ad us hc, fun h1 => ?_⟩
    match us, hn, h1 with
    | [c], _, _ => exact ⟨c, rfl, by simpa [Addr.add] using hc 0 c rfl⟩
    | [], hn, h1 => simp at hn; omega
    | _ :: _ :: _, hn, h1 => simp at hn; omega
  unfold loadA at hl
  split at hl
  · rename_i b off
    split at hl
    · rename_i cs' hb
      split at hl
      · rename_i hle
        cases hl
        cases hx with
        | ptr hφ =>
          rename_i g
          obtain ⟨vs, t, h1, h2, h3, h4⟩ := h.cellsAt hb hφ
          have hlen := h3.1
          rw [List.length_take] at hlen
          have hlen' : ((vs.toList.drop off).take n).length = n := by rw [List.length_take, List.length_drop]; omega
          obtain ⟨f1, f2⟩ := fin ⟨g, off, none⟩ ((vs.toList.drop off).take n) hlen' (fun j v hj => by
            rw [List.getElem?_take] at hj
            split at hj
            · rw [List.getElem?_drop] at hj
              rw [addr_lit]
              simp only [World.cell?, h2]
              simpa using hj
            · cases hj)
          have h3' := (h3.drop off).take n
          have hmin : min n (cs'.length - off) = n := by omega
          rw [List.drop_take, List.take_take, hmin] at h3'
          exact ⟨_, _, rfl, f1, h3', hlen', f2⟩
      · cases hl
    · cases hl
  · rename_i ds
    split at hl
    · rename_i hle
      cases hl
      cases hx with
      | ip u h1 h2 =>
        rename_i ad
        have hlen' : ((List.range n).map u).length = n := by simp
        have hd : ∀ j, j < n → ∃ d, ds[j]? = some d := fun j hj => ⟨ds[j]'(by omega), List.getElem?_eq_getElem (by omega)⟩
        obtain ⟨f1, f2⟩ := fin ad ((List.range n).map u) hlen' (fun j v hj => by
          rw [List.getElem?_map, Option.map_eq_some_iff] at hj
          obtain ⟨k, hk, rfl⟩ := hj
          obtain ⟨hlt, hk2⟩ := List.getElem?_eq_some_iff.1 hk
          simp at hlt hk2; subst hk2
          obtain ⟨d, hd⟩ := hd j hlt
          exact h.mem _ _ (h1 j d hd))
        refine ⟨_, _, rfl, f1, ⟨by simp; omega, fun i c v hi hv => ?_⟩, hlen', f2⟩
        rw [List.getElem?_map, Option.map_eq_some_iff] at hi hv
        obtain ⟨d, hd', rfl⟩ := hi
        obtain ⟨k, hk, rfl⟩ := hv
        obtain ⟨hlt, hk2⟩ := List.getElem?_eq_some_iff.1 hk
        simp at hlt hk2; subst hk2
        rw [List.getElem?_take, if_pos hlt] at hd'
        exact .d (h2 i d hd')
    · cases hl
  · cases hl

theorem szOf_run {t : TypeId} {n : Nat} (h : szOf P t = some n) (w : World) : (sizeOf t).run P w = .ok n w := by
  unfold szOf at h
  simp only [Option.map_eq_some_iff] at h
  obtain ⟨i, hi, rfl⟩ := h
  simp [sizeOf, typeInfo, hi]
theorem agOf_run {t : TypeId} {g : Bool} (h : agOf P t = some g) (w : World) : (isAgg t).run P w = .ok g w := by
  unfold agOf at h
  simp only [Option.map_eq_some_iff] at h
  obtain ⟨d, hd, rfl⟩ := h
  simp only [isAgg, Sem.run_bind, run_underlying hd, Result.andThen_ok]
  cases d <;> rfl

theorem ok_load {t : TypeId} {x : Operand} {y : Opd} {n : Nat} {g : Bool} {cs : List AV} {v : AV} (ho : o.op = .load t x) (hy : opd x = some y) (hn : szOf P t = some n) (hg : agOf P t = some g)
    (hg1 : (g || n == 1) = true) (hs : SS σ s a) (h : HR σ H w) (hl : loadA H (get s y) n = some cs) (hv : outA g cs = some v) : OpOk P o a σ H w v H := by
  obtain ⟨ad, us, hu, hr, hvs, hlen, h1⟩ := loadA_sound (P := P) h (get_sound hy hs) hl
  cases g with
  | true =>
    simp [outA] at hv; subst hv
    refine .pure h (u := .agg us.toArray) ?_ (.agg hvs.1 hvs.2)
    simp [execOp, ho, Instr.loadAt, hu, Instr.sureAddr, loadVar, agOf_run hg, szOf_run hn, hr]
  | false =>
    simp at hg1; subst hg1
    obtain ⟨c, rfl, hc⟩ := h1 rfl
    have : cs.length = 1 := by simpa using hvs.1
    match cs, this, hv, hvs with
    | [c'], _, hv, hvs =>
      simp [outA] at hv; subst hv
      refine .pure h (u := c) ?_ (hvs.2 0 c' c rfl rfl)
      simp [execOp, ho, Instr.loadAt, hu, Instr.sureAddr, loadVar, agOf_run hg, hc]

theorem splice_length {cs vs : List AV} {off : Nat} (h : off + vs.length ≤ cs.length) : (splice cs off vs).length = cs.length := by
  simp [splice]; omega

theorem splice_sound {cs vs : List AV} {L us : List Value} {off : Nat} (h3 : VRs σ cs (L.take cs.length)) (hvs : VRs σ vs us) (hfit : off + vs.length ≤ cs.length) (hcl : cs.length ≤ L.length) :
    VRs σ (splice cs off vs) ((L.take off ++ us ++ L.drop (off + us.length)).take (splice cs off vs).length) := by
  have hvl := hvs.1
  have := ((h3.take off).append hvs).append (h3.drop (off + vs.length))
  rw [splice_length hfit]
  have e : (L.take off ++ us ++ L.drop (off + us.length)).take cs.length = (L.take cs.length).take off ++ us ++ (L.take cs.length).drop (off + vs.length) := by
    rw [← hvl, List.drop_take, List.take_take, Nat.min_eq_left (by omega)]
    have hl : (L.take off ++ us).length = off + vs.length := by rw [List.length_append, List.length_take, ← hvl]; omega
    rw [List.take_append, hl, List.take_of_length_le (by omega)]
  rw [e]
  exact this

theorem ok_store {t : TypeId} {x v : Operand} {y z : Opd} {n : Nat} {H' : List ABlk} (ho : o.op = .store t x v) (hy : opd x = some y) (hz : opd v = some z) (hn : szOf P t = some n)
    (hs : SS σ s a) (h : HR σ H w) (hsh : shown (get s z) = true) (hlen : (cellsAV (get s z)).length = n) (hst : storeA H (get s y) (cellsAV (get s z)) = some H') :
    OpOk P o a σ H w (.tup []) H' := by
  have hx := get_sound hy hs
  have hvs := cellsAV_sound (get_sound hz hs) hsh
  generalize hX : get s y = X at hx hst
  generalize hC : cellsAV (get s z) = vs at hvs hst hlen
  unfold storeA at hst
  split at hst
  · rename_i b off
    split at hst
    · rename_i cs hb
      split at hst
      · rename_i hc
        obtain ⟨hfit, hone⟩ := hc
        cases hst
        generalize hp : a.eval x = p at hx
        cases hx with
        | ptr hφ =>
          rename_i g
          obtain ⟨cur, t', h1, h2, h3, h4⟩ := h.setCells (cs' := splice cs off vs) hb hφ
          have hcl := h3.1
          have hvl := hvs.1
          have hone' : ∀ u ∈ (a.eval v).cells.toList, u.oneCell' = true := fun u hu => by
            obtain ⟨i, hi, rfl⟩ := List.mem_iff_getElem.1 hu
            have hi' : i < vs.length := by rw [hvl]; exact hi
            exact all_one (hvs.2 i _ _ (List.getElem?_eq_getElem hi') (List.getElem?_eq_getElem hi)) (List.all_eq_true.1 hone _ (List.getElem_mem hi'))
          have hcl' : cs.length ≤ cur.toList.length := by rw [List.length_take] at hcl; omega
          have hr := run_storeCells_at (P := P) g off t' (a.eval v).cells.toList 0 cur w h2 (by simp at hvl hcl' ⊢; omega) hone'
          obtain ⟨e1, e2⟩ := h4 (cur.toList.take off ++ (a.eval v).cells.toList ++ cur.toList.drop (off + (a.eval v).cells.toList.length)).toArray (by
            simp at hvl hcl' ⊢; omega) (splice_sound h3 hvs hfit hcl')
          refine ⟨σ, _, undef, .inr ⟨?_, rfl⟩, e1, e2, .tup (us := []) rfl (fun i c u hi => by simp at hi)⟩
          have hsize : (a.eval v).cells.size = n := by rw [← hlen, hvl]; simp
          simp only [Nat.add_zero] at hr
          simp [execOp, ho, Instr.storeAt, hp, Instr.sureAddr, storeVar, szOf_run hn, hsize, hr]
      · cases hst
    · cases hst
  · cases hst

end
end Go.Proofs.Ytalhmnijkkihgaa
