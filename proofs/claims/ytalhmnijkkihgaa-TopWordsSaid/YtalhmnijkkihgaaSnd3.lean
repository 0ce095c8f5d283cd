/-
  One's own library, part 5c: each operation does what the evaluator says.
-/
import Derived.Test.YtalhmnijkkihgaaSnd2
import Derived.Deep.Heap
namespace Go.Proofs.Ytalhmnijkkihgaa
set_option linter.unusedVariables false
set_option linter.unusedSimpArgs false
set_option linter.unusedSectionVars false
open Go.RowKit

section
variable {P : Program} {o : Oper} {a : Act} {σ : Sg} {H : List ABlk} {w : World} {s : List AV}

theorem isBoolT_spec {t : TypeId} (h : isBoolT P t = true) : P.underlying t = some .bool := by
  unfold isBoolT at h; split at h
  · assumption
  · cases h
theorem isPtrT_spec {t : TypeId} (h : isPtrT P t = true) : ∃ e, P.underlying t = some (.pointer e) := by
  unfold isPtrT at h; split at h
  · exact ⟨_, by assumption⟩
  · cases h
theorem isIntT_spec {t : TypeId} {k : IntKind} (h : isIntT P t = some k) : P.underlying t = some (.int k) := by
  unfold isIntT at h; split at h
  · cases h; assumption
  · cases h

theorem run_equal_bool {t : TypeId} (ht : P.underlying t = some .bool) (x y : Bool) (w : World) : (Op.equal t (.bool x) (.bool y)).run P w = .ok (x == y) w := by
  have key : ∀ d : Nat, (Op.equalIn (d + 1) t (.bool x) (.bool y)).run P w = .ok (x == y) w := fun d => by simp [Op.equalIn, run_underlying ht]
  exact key 9999
theorem run_equal_ptr {t e : TypeId} (ht : P.underlying t = some (.pointer e)) (x y : Option Addr) (hxy : x = none ∨ y = none) (w : World) : (Op.equal t (.pointer x) (.pointer y)).run P w = .ok (x.isNone && y.isNone) w := by
  have key : ∀ d : Nat, (Op.equalIn (d + 1) t (.pointer x) (.pointer y)).run P w = .ok (x.isNone && y.isNone) w := fun d => by
    rcases hxy with rfl | rfl
    · simp [Op.equalIn, run_underlying ht]
    · cases x <;> simp [Op.equalIn, run_underlying ht]
  exact key 9999

theorem ok_eqs {neg : Bool} {t t' : TypeId} {x y : Operand} {x' y' : Opd} {v : AV} (ho : o.op = .binOp (if neg then .neq else .eql) t x y t') (ht : P.underlying t = some .bool) (hx : opd x = some x') (hy : opd y = some y') (hs : SS σ s a) (h : HR σ H w)
    (hv : boolsA (if neg then .neq else .eql) (get s x') (get s y') = some v) : OpOk P o a σ H w v H := by
  have h1 := get_sound hx hs
  have h2 := get_sound hy hs
  unfold boolsA at hv
  split at hv
  · rename_i b c e1 e2
    rw [e1] at h1; rw [e2] at h2
    have q1 := h1.bool_inv
    have q2 := h2.bool_inv
    cases neg <;> simp only [if_true, Bool.false_eq_true, if_false] at hv ho <;> cases hv <;> refine .pure h ?_ (VR.mk_bool _) <;>
      simp [execOp, ho, q1, q2, eqGuard, binOp, run_equal_bool ht]
  · cases hv

theorem ok_eqp {neg : Bool} {t t' : TypeId} {x y : Operand} {x' y' : Opd} {v : AV} (ho : o.op = .binOp (if neg then .neq else .eql) t x y t') (ht : ∃ e, P.underlying t = some (.pointer e)) (hx : opd x = some x') (hy : opd y = some y') (hs : SS σ s a) (h : HR σ H w)
    (hv : ptrsA neg (get s x') (get s y') = some v) : OpOk P o a σ H w v H := by
  obtain ⟨e, ht⟩ := ht
  have h1 := get_sound hx hs
  have h2 := get_sound hy hs
  unfold ptrsA at hv
  generalize hp : a.eval x = u at h1
  generalize hq : a.eval y = u' at h2
  split at hv
  all_goals first
    | (rename_i e1 e2
       rw [e1] at h1; rw [e2] at h2
       cases h1; cases h2; cases hv
       refine .pure h ?_ (VR.mk_bool _)
       cases neg <;> simp only [if_true, Bool.false_eq_true, if_false] at ho <;> simp [execOp, ho, hp, hq, eqGuard, binOp, run_equal_ptr ht])
    | cases hv

theorem ok_un {op : UnOp} {t : TypeId} {x : Operand} {x' : Opd} {v : AV} (ho : o.op = .unOp op t x) (hx : opd x = some x') (hs : SS σ s a) (h : HR σ H w)
    (hv : unA op (get s x') = some v) : OpOk P o a σ H w v H := by
  have h1 := get_sound hx hs
  unfold unA at hv
  split at hv
  · rename_i b e1
    rw [e1] at h1
    cases hv
    refine .pure h ?_ (VR.mk_bool _)
    simp [execOp, ho, h1.bool_inv, Op.unary]
  · rename_i k n e1
    rw [e1] at h1
    cases hv
    refine .pure h ?_ (VR.mk_int _ _)
    simp [execOp, ho, h1.int_inv, Op.unary, Op.intArith]
  · cases hv

theorem ok_cvi {r t : TypeId} {x : Operand} {x' : Opd} {k k' : IntKind} {n : Int} (ho : o.op = .convert r t x) (hr : (P.underlying r).isSome = true) (ht : P.underlying t = some (.int k)) (hx : opd x = some x') (hs : SS σ s a) (h : HR σ H w)
    (hv : get s x' = .d (.v (.int k' n))) : OpOk P o a σ H w (.d (.v (.int k (k.wrap n)))) H := by
  have h1 := get_sound hx hs
  rw [hv] at h1
  obtain ⟨d, hd⟩ := Option.isSome_iff_exists.1 hr
  refine .pure h ?_ (VR.mk_int _ _)
  simp [execOp, ho, h1.int_inv, convert, run_underlying hd, run_underlying ht, Conv.intToInt]

theorem addr_add_add (a : Addr) (i j : Nat) : (a.add i).add j = a.add (i + j) := by
  unfold Addr.add
  by_cases hi : i = 0 <;> by_cases hj : j = 0 <;> simp [hi, hj, Nat.add_assoc]

theorem faA_sound {x v : AV} {off : Nat} {ad : Value} (h : VR σ x ad) (hv : faA x off = some v) : ∃ p, ad = .pointer (some p) ∧ VR σ v (.pointer (some (p.add off))) := by
  unfold faA at hv
  split at hv
  · cases hv
    cases h with
    | ptr hφ => exact ⟨_, rfl, by rw [addr_lit]; exact .ptr hφ⟩
  · cases hv
    cases h with
    | ip u h1 h2 =>
      refine ⟨_, rfl, .ip (fun j => u (off + j)) (fun j d hj => ?_) (fun j d hj => ?_)⟩
      · rw [List.getElem?_drop] at hj
        rw [addr_add_add]; exact h1 _ d hj
      · rw [List.getElem?_drop] at hj
        exact h2 _ d hj
  · cases hv

theorem ok_fa {t : TypeId} {x : Operand} {x' : Opd} {f : Nat} {fs : Array Field} {fl : Field} {n : Nat} {v : AV} (ho : o.op = .fieldAddr t x f) (ht : P.underlying t = some (.struct fs)) (hf : fs[f]? = some fl) (hn : szOf P fl.type = some (n + 1))
    (hx : opd x = some x') (hs : SS σ s a) (h : HR σ H w) (hv : faA (get s x') fl.offset = some v) : OpOk P o a σ H w v H := by
  obtain ⟨p, hp, hr⟩ := faA_sound (get_sound hx hs) hv
  refine .pure h ?_ hr
  simp [execOp, ho, Instr.fieldAt, run_underlying ht, hf, hp, Instr.sureAddr, fieldPlace, szOf_run hn]

theorem outA_sound {g : Bool} {cs : List AV} {us : List Value} {v : AV} (h : VRs σ cs us) (hv : outA g cs = some v) : (g = true → VR σ v (.agg us.toArray)) ∧ (g = false → ∃ u, us = [u] ∧ VR σ v u) := by
  cases g with
  | true => simp [outA] at hv; subst hv; exact ⟨fun _ => .agg h.1 h.2, fun h => by cases h⟩
  | false =>
    refine ⟨fun h => (by cases h), fun _ => ?_⟩
    unfold outA at hv
    simp only [Bool.false_eq_true, if_false] at hv
    split at hv
    · cases hv
      obtain ⟨u, us', rfl, h1, h2⟩ := h.cons_inv
      have hl := h2.1
      match us', hl with
      | [], _ => exact ⟨u, rfl, h1⟩
    · cases hv

theorem ok_fld {t : TypeId} {x : Operand} {x' : Opd} {f : Nat} {fs : Array Field} {fl : Field} {n : Nat} {g : Bool} {cs : List AV} {v : AV} (ho : o.op = .field t x f) (ht : P.underlying t = some (.struct fs)) (hf : fs[f]? = some fl) (hn : szOf P fl.type = some n) (hg : agOf P fl.type = some g)
    (hx : opd x = some x') (hs : SS σ s a) (h : HR σ H w) (hc : get s x' = .agg cs) (_hle : fl.offset + n ≤ cs.length) (hv : outA g ((cs.drop fl.offset).take n) = some v) : OpOk P o a σ H w v H := by
  have h1 := get_sound hx hs
  rw [hc] at h1
  generalize hp : a.eval x = u at h1
  cases h1 with
  | agg h2 h3 =>
    rename_i us
    have hvs : VRs σ ((cs.drop fl.offset).take n) ((us.drop fl.offset).take n) := (VRs.drop ⟨h2, h3⟩ _).take _
    obtain ⟨q1, q2⟩ := outA_sound hvs hv
    cases g with
    | true =>
      refine .pure h ?_ (q1 rfl)
      simp [execOp, ho, Instr.field, run_underlying ht, hf, hp, asAgg, part, agOf_run hg, szOf_run hn]
    | false =>
      obtain ⟨u, hu, hr⟩ := q2 rfl
      refine .pure h ?_ hr
      have hu' : us[fl.offset]? = some u := by
        have : ((us.drop fl.offset).take n)[0]? = some u := by rw [hu]; rfl
        rw [List.getElem?_take] at this
        split at this
        · simpa using this
        · cases this
      simp [execOp, ho, Instr.field, run_underlying ht, hf, hp, asAgg, part, agOf_run hg, hu']

theorem run_indexAt_slice {t e : TypeId} {sz : Nat} (ht : P.underlying t = some (.slice e)) (hz : szOf P e = some sz) (ad : Addr) (n c : Nat) (k : IntKind) (i : Int) (h0 : 0 ≤ i) (h1 : i < n) (w : World) :
    (Instr.indexAt t (.slice (some ad) n c) (.int k i)).run P w = .ok (.pointer (some (ad.add (i.toNat * sz)))) w := by
  have h2 : 0 ≤ i ∧ i < (n : Int) := ⟨h0, h1⟩
  simp [Instr.indexAt, asIntOf, run_underlying ht, h2, szOf_run hz]

theorem ip_of_sl {es : List (List Dat)} {u : Value} {i sz : Nat} (h : VD σ.M (.sl es) u) (hi : i < es.length) (hsz : (es.getD i []).length = sz) :
    ∃ ad c, u = .slice (some ad) es.length c ∧ VR σ (.ip (es.getD i [])) (.pointer (some (ad.add (i * sz)))) := by
  cases h with
  | nil => simp at hi
  | sl uu h1 h2 hm h3 h4 h5 =>
    rename_i ad c sz'
    have hg : es[i]? = some (es.getD i []) := by simp [List.getElem?_eq_getElem hi]
    have hsz' : sz' = sz := by rw [← hsz]; exact (h3 _ (List.mem_of_getElem? hg)).symm
    subst hsz'
    refine ⟨ad, c, rfl, .ip (fun j => uu i j) (fun j d hj => ?_) (fun j d hj => h5 i _ j d hg hj)⟩
    rw [addr_add_add]
    exact h4 i _ j d hg hj

theorem ok_ia {t e : TypeId} {x y : Operand} {x' y' : Opd} {sz : Nat} {k : IntKind} {n : Int} {v : AV} (ho : o.op = .indexAddr t x y) (ht : P.underlying t = some (.slice e)) (hz : szOf P e = some sz) (hx : opd x = some x') (hy : opd y = some y')
    (hs : SS σ s a) (h : HR σ H w) (hn : get s y' = .d (.v (.int k n))) (hv : iaA (get s x') n sz = some v) : OpOk P o a σ H w v H := by
  have h1 := get_sound hx hs
  have h2 := get_sound hy hs
  rw [hn] at h2
  have q2 := h2.int_inv
  have fin : ∀ (u : Value) (es : List (List Dat)), a.eval x = u → VD σ.M (.sl es) u → 0 ≤ n ∧ n < es.length ∧ (es.getD n.toNat []).length = sz → OpOk P o a σ H w (.ip (es.getD n.toNat [])) H := fun u es hu hd ⟨c1, c2, c3⟩ => by
    obtain ⟨ad, c, rfl, hr⟩ := ip_of_sl (σ := σ) hd (i := n.toNat) (by omega) c3
    refine .pure h ?_ hr
    simp [execOp, ho, hu, q2, run_indexAt_slice ht hz ad _ c k n c1 c2]
  unfold iaA at hv
  generalize hp : a.eval x = u at h1
  split at hv
  · rename_i es e1
    rw [e1] at h1
    split at hv
    · rename_i hc
      cases hv
      cases h1 with
      | d hd => exact fin u es hp hd hc
    · cases hv
  · rename_i b sz' es e1
    rw [e1] at h1
    split at hv
    · rename_i hc
      obtain ⟨c1, c2, rfl⟩ := hc
      cases hv
      cases h1 with
      | gsl _ hz hd => exact fin u es hp hd ⟨c1, c2, hz _ (by
          have hlt : n.toNat < es.length := by omega
          simp only [List.getD_eq_getElem?_getD, List.getElem?_eq_getElem hlt, Option.getD_some]
          exact List.getElem_mem hlt)⟩
    · cases hv
  · rename_i b off m cap sz' e1
    rw [e1] at h1
    split at hv
    · rename_i hc
      obtain ⟨c1, c2, rfl⟩ := hc
      cases hv
      cases h1 with
      | @hsl _ _ _ _ _ cap' _ _ hφ hle =>
        refine .pure h ?_ (VR.ptr hφ)
        simp [execOp, ho, hp, q2, run_indexAt_slice ht hz _ _ cap' k n c1 c2, addr_lit]
      | hsl0 _ => simp at c2; omega
    · cases hv
  · cases hv

theorem ok_iar {t e : TypeId} {x y : Operand} {x' y' : Opd} {sz len : Nat} {k : IntKind} {n : Int} {v : AV} (ho : o.op = .indexAddr t x y) (ht : P.underlying t = some (.array len e)) (hz : szOf P e = some sz) (hx : opd x = some x') (hy : opd y = some y')
    (hs : SS σ s a) (h : HR σ H w) (hn : get s y' = .d (.v (.int k n))) (hc : 0 ≤ n ∧ n < len) (hv : faA (get s x') (n.toNat * sz) = some v) : OpOk P o a σ H w v H := by
  obtain ⟨p, hp, hr⟩ := faA_sound (get_sound hx hs) hv
  have h2 := get_sound hy hs
  rw [hn] at h2
  refine .pure h ?_ hr
  simp [execOp, ho, Instr.indexAt, run_underlying ht, hp, h2.int_inv, Instr.sureAddr, asIntOf, hc, szOf_run hz]

theorem ok_ix {t : TypeId} {x y : Operand} {x' y' : Opd} {b : ByteArray} {k : IntKind} {n : Int} (ho : o.op = .index t x y) (ht : P.underlying t = some .string) (hx : opd x = some x') (hy : opd y = some y')
    (hs : SS σ s a) (h : HR σ H w) (hb : get s x' = .d (.v (.string b))) (hn : get s y' = .d (.v (.int k n))) (hc : 0 ≤ n ∧ n < b.size) : OpOk P o a σ H w (.d (.v (.int .u8 ((b.data.toList.getD n.toNat 0).toNat)))) H := by
  have h1 := get_sound hx hs
  have h2 := get_sound hy hs
  rw [hb] at h1
  rw [hn] at h2
  refine .pure h ?_ (VR.mk_int _ _)
  have hlt : n.toNat < b.size := by omega
  have hg : b[n.toNat]? = some (b.data.toList.getD n.toNat 0) := by
    have hlt' : n.toNat < b.data.size := hlt
    rw [getElem?_pos b n.toNat hlt]
    simp only [List.getD_eq_getElem?_getD, Array.getElem?_toList, Array.getElem?_eq_getElem hlt', Option.getD_some]
    rfl
  simp [execOp, ho, Instr.index, asIntOf, run_underlying ht, h1.str_inv, h2.int_inv, hc.1, hg]

theorem ok_ixv {t e : TypeId} {x y : Operand} {x' y' : Opd} {cs : List AV} {k : IntKind} {n : Int} {len : Nat} (ho : o.op = .index t x y) (ht : P.underlying t = some (.array len e)) (hz : szOf P e = some 1) (hg : agOf P e = some false) (hx : opd x = some x') (hy : opd y = some y')
    (hs : SS σ s a) (h : HR σ H w) (hb : get s x' = .agg cs) (hn : get s y' = .d (.v (.int k n))) (hc : 0 ≤ n ∧ n < len ∧ len ≤ cs.length) : OpOk P o a σ H w (cs.getD n.toNat .any) H := by
  have h1 := get_sound hx hs
  have h2 := get_sound hy hs
  rw [hb] at h1
  rw [hn] at h2
  generalize hp : a.eval x = u at h1
  cases h1 with
  | agg h3 h4 =>
    rename_i us
    have hlt : n.toNat < us.length := by omega
    have hu : us[n.toNat]? = some us[n.toNat] := List.getElem?_eq_getElem hlt
    have hcx : cs[n.toNat]? = some (cs.getD n.toNat .any) := by
      have : n.toNat < cs.length := by omega
      rw [List.getD_eq_getElem?_getD, List.getElem?_eq_getElem this]; rfl
    refine .pure h ?_ (h4 _ _ _ hcx hu)
    simp [execOp, ho, Instr.index, asIntOf, run_underlying ht, hp, h2.int_inv, hc.1, hc.2.1, part, agOf_run hg, szOf_run hz, hlt]

theorem ok_ext {x : Operand} {x' : Opd} {i : Nat} {cs : List AV} {v : AV} (ho : o.op = .extract x i) (hx : opd x = some x') (hs : SS σ s a) (h : HR σ H w) (hc : get s x' = .tup cs) (hv : cs[i]? = some v) : OpOk P o a σ H w v H := by
  have h1 := get_sound hx hs
  rw [hc] at h1
  generalize hp : a.eval x = u at h1
  cases h1 with
  | tup h2 h3 =>
    rename_i us
    have hlt : i < us.length := by
      rw [← h2]
      rcases Nat.lt_or_ge i cs.length with hl | hl
      · exact hl
      · rw [List.getElem?_eq_none hl] at hv; cases hv
    refine .pure h ?_ (h3 i v _ hv (List.getElem?_eq_getElem hlt))
    simp [execOp, ho, Instr.extract, hp, hlt]

theorem lenA_sound {x : AV} {u : Value} {n : Nat} (h : VR σ x u) (hn : lenA x = some n) : (∃ b, u = .string b ∧ b.size = n) ∨ (∃ ad c, u = .slice ad n c) := by
  unfold lenA at hn
  split at hn <;> cases hn
  · rename_i b
    exact .inl ⟨b, h.str_inv, rfl⟩
  · cases h with
    | d hd => cases hd with
      | nil => exact .inr ⟨_, _, rfl⟩
      | sl => exact .inr ⟨_, _, rfl⟩
  · cases h; exact .inr ⟨_, _, rfl⟩
  · cases h with
    | gsl _ _ hd => cases hd with
      | nil => exact .inr ⟨_, _, rfl⟩
      | sl => exact .inr ⟨_, _, rfl⟩
  · cases h with
    | hsl => exact .inr ⟨_, _, rfl⟩
    | hsl0 => exact .inr ⟨_, _, rfl⟩

theorem ok_len {c : Call} {t : TypeId} {x : Operand} {x' : Opd} {n : Nat} (ho : o.op = .call c) (hc : c.callee = .builtin .len) (hT : c.argTypes.toList = [t]) (hA : c.args.toList = [x]) (ht : P.underlying t = some .string ∨ ∃ e, P.underlying t = some (.slice e))
    (hx : opd x = some x') (hs : SS σ s a) (h : HR σ H w) (hn : lenA (get s x') = some n) (hk : (P.underlying t = some .string → ∃ b, get s x' = .d (.v (.string b))) ∧ ((∃ e, P.underlying t = some (.slice e)) → ∀ b, get s x' ≠ .d (.v (.string b)))) : OpOk P o a σ H w (.d (.v (.int .i64 n))) H := by
  have hT' : c.argTypes = #[t] := by rw [← Array.toArray_toList (xs := c.argTypes), hT]
  have hA' : c.args = #[x] := by rw [← Array.toArray_toList (xs := c.args), hA]
  have h1 := get_sound hx hs
  refine .pure h ?_ (VR.mk_int _ _)
  rcases ht with ht | ⟨e, ht⟩
  · obtain ⟨b, hb⟩ := hk.1 ht
    rw [hb] at h1 hn
    simp [lenA] at hn
    subst hn
    simp [execOp, ho, resolve, hc, hA', hT', invoke, builtin, Builtin.len_, run_underlying ht, h1.str_inv, goInt]
  · rcases lenA_sound h1 hn with ⟨b, hb, _⟩ | ⟨ad, cc, hu⟩
    · exfalso
      rw [hb] at h1
      have := hk.2 ⟨e, ht⟩
      generalize get s x' = X at h1 hn this
      cases h1 with
      | any => simp [lenA] at hn
      | d hd => cases hd with
        | v => exact this b rfl
      | gsl _ _ hd => cases hd
    · simp [execOp, ho, resolve, hc, hA', hT', invoke, builtin, Builtin.len_, run_underlying ht, hu, goInt]

end
end Go.Proofs.Ytalhmnijkkihgaa
