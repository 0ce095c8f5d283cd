/-
  One's own library, part 5d: each operation does what the evaluator says.
-/
import Derived.Test.YtalhmnijkkihgaaSnd3
namespace Go.Proofs.Ytalhmnijkkihgaa
set_option linter.unusedVariables false
set_option linter.unusedSimpArgs false
set_option linter.unusedSectionVars false
open Go.RowKit

section
variable {P : Program} {o : Oper} {a : Act} {σ : Sg} {H : List ABlk} {w : World} {s : List AV}

theorem bnd_sound {x : Option Operand} {x' : Option Opd} {d : Nat} {l : Int} (hx : opdO x = some x') (hs : SS σ s a) (hl : bnd s d x' = some l) :
    (x = none ∧ l = d) ∨ ∃ y k, x = some y ∧ a.eval y = .int k l := by
  cases x with
  | none =>
    simp [opdO] at hx; subst hx
    simp [bnd] at hl
    exact .inl ⟨rfl, hl.symm⟩
  | some y =>
    simp only [opdO, Option.map_eq_some_iff] at hx
    obtain ⟨y', hy, rfl⟩ := hx
    have h1 := get_sound hy hs
    unfold bnd at hl
    simp only at hl
    split at hl
    · rename_i k n e1
      cases hl
      rw [e1] at h1
      exact .inr ⟨y, k, rfl, h1.int_inv⟩
    · cases hl

theorem run_sliceBounds {b : Bool} {len cap : Nat} {lo hi : Option Operand} {l h : Int} (hl : (lo = none ∧ l = (0 : Nat)) ∨ ∃ y k, lo = some y ∧ a.eval y = .int k l) (hh : (hi = none ∧ h = len) ∨ ∃ y k, hi = some y ∧ a.eval y = .int k h)
    (h0 : 0 ≤ l) (h1 : l ≤ h) (h2 : h ≤ cap) (w : World) : (Instr.sliceBounds b len cap (lo.map a.eval) (hi.map a.eval) none).run P w = .ok (l.toNat, h.toNat, cap) w := by
  have hh0 : 0 ≤ h := by omega
  have c1 : (0 ≤ h ∧ h ≤ (cap : Int)) := ⟨hh0, h2⟩
  have c2 : (0 ≤ l ∧ l ≤ h) := ⟨h0, h1⟩
  rcases hl with ⟨rfl, rfl⟩ | ⟨y, k, rfl, hy⟩ <;> rcases hh with ⟨rfl, rfl⟩ | ⟨z, k', rfl, hz⟩ <;>
    simp [Instr.sliceBounds, Instr.sliceBound, asIntOf, *] <;> omega

theorem slice_data {es : List (List Dat)} {u : Value} {l h sz : Nat} (hd : VD σ.M (.sl es) u) (h1 : l ≤ h) (h2 : h ≤ es.length) (hz : ∀ e ∈ es, e.length = sz) :
    ∃ ad c, u = .slice ad es.length c ∧ (es.length ≤ c ∨ es = []) ∧ VD σ.M (.sl ((es.drop l).take (h - l))) (.slice (if c = l then ad else ad.map (·.add (l * sz))) (h - l) (c - l)) := by
  cases hd with
  | nil =>
    simp at h2; subst h2
    have : l = 0 := by omega
    subst this
    exact ⟨_, _, rfl, .inr rfl, by simpa using VD.nil⟩
  | sl uu h3 h4 hm h5 h6 h7 =>
    rename_i ad c sz'
    refine ⟨_, _, rfl, .inl h4, ?_⟩
    have hlen : ((es.drop l).take (h - l)).length = h - l := by simp; omega
    by_cases hlh : l = h
    · subst hlh
      simp
      exact .nil
    · have hszz : sz' = sz := by
        have : es ≠ [] := h3
        obtain ⟨e, r, rfl⟩ := List.exists_cons_of_ne_nil this
        rw [← h5 e (by simp), ← hz e (by simp)]
      subst hszz
      rw [if_neg (by omega)]
      have hget : ∀ (i : Nat) (e : List Dat), ((es.drop l).take (h - l))[i]? = some e → es[l + i]? = some e := fun i e hi => by
        rw [List.getElem?_take] at hi
        split at hi
        · rwa [List.getElem?_drop] at hi
        · cases hi
      have := VD.sl (M := σ.M) (es := (es.drop l).take (h - l)) (a := ad.add (l * sz')) (cap := c - l) (sz := sz') (fun i j => uu (l + i) j) (fun e => by rw [e] at hlen; simp at hlen; omega) (by omega) (by omega)
        (fun e he => h5 e (List.mem_of_mem_drop (List.mem_of_mem_take he)))
        (fun i e j d hi hj => by
          rw [addr_add_add, show l * sz' + (i * sz' + j) = (l + i) * sz' + j by rw [Nat.add_mul]; omega]
          exact h6 _ _ _ _ (hget i e hi) hj)
        (fun i e j d hi hj => h7 _ _ _ _ (hget i e hi) hj)
      rw [hlen] at this
      exact this

theorem slA_sound {x v : AV} {u : Value} {lo hi : Option Operand} {l h : Int} {n sz : Nat} {t : TypeId} (hx : VR σ x u) (hn : lenA x = some n)
    (hl : (lo = none ∧ l = (0 : Nat)) ∨ ∃ y k, lo = some y ∧ a.eval y = .int k l) (hh : (hi = none ∧ h = n) ∨ ∃ y k, hi = some y ∧ a.eval y = .int k h)
    (hv : slA x l h sz = some v) (ht : (P.underlying t = some .string ∧ ∃ b, x = .d (.v (.string b))) ∨ (∃ e, P.underlying t = some (.slice e) ∧ szOf P e = some sz ∧ ∀ b, x ≠ .d (.v (.string b)))) (w : World) :
    ∃ u', (Instr.sliceAt t u (lo.map a.eval) (hi.map a.eval) none).run P w = .ok u' w ∧ VR σ v u' := by
  rcases ht with ⟨ht, b, rfl⟩ | ⟨e, ht, hz, hb⟩
  · have hu := hx.str_inv
    subst hu
    simp [lenA] at hn; subst hn
    simp only [slA] at hv
    split at hv
    · rename_i hc
      cases hv
      refine ⟨_, ?_, VR.mk_str _⟩
      simp [Instr.sliceAt, Instr.slice, run_underlying ht, run_sliceBounds (P := P) (b := false) hl hh hc.1 hc.2.1 hc.2.2]
    · cases hv
  · have run : ∀ ad m c, u = .slice ad m c → m = n → 0 ≤ l → l ≤ h → h ≤ c → (Instr.sliceAt t u (lo.map a.eval) (hi.map a.eval) none).run P w =
        .ok (.slice (if c = l.toNat then ad else ad.map (·.add (l.toNat * sz))) (h.toNat - l.toNat) (c - l.toNat)) w := fun ad m c hu hm c1 c2 c3 => by
      subst hu; subst hm
      simp [Instr.sliceAt, Instr.slice, run_underlying ht, run_sliceBounds (P := P) (b := true) hl hh c1 c2 c3, szOf_run hz]
    have data : ∀ es, VD σ.M (.sl es) u → n = es.length → 0 ≤ l ∧ l ≤ h ∧ h ≤ es.length ∧ es.all (fun e => e.length == sz) = true →
        ∃ u', (Instr.sliceAt t u (lo.map a.eval) (hi.map a.eval) none).run P w = .ok u' w ∧ VR σ (.d (.sl ((es.drop l.toNat).take (h.toNat - l.toNat)))) u' := fun es hd hne ⟨c1, c2, c3, c4⟩ => by
      obtain ⟨ad, c, hu, hcap, hr⟩ := slice_data (σ := σ) hd (l := l.toNat) (h := h.toNat) (sz := sz) (by omega) (by omega) (fun e he => by simpa using List.all_eq_true.1 c4 e he)
      have hcap' : h ≤ c := by
        rcases hcap with hcap | rfl
        · omega
        · simp at c3; omega
      exact ⟨_, run ad _ c hu hne.symm c1 c2 hcap', .d hr⟩
    unfold slA at hv
    split at hv
    · rename_i b; exact absurd rfl (hb b)
    · rename_i es
      split at hv
      · rename_i hc
        cases hv
        simp [lenA] at hn
        cases hx with
        | d hd => exact data es hd hn.symm hc
      · cases hv
    · rename_i b sz' es
      split at hv
      · rename_i hc
        obtain ⟨c1, c2, c3, rfl⟩ := hc
        cases hv
        simp [lenA] at hn
        cases hx with
        | gsl _ hz hd => exact data es hd hn.symm ⟨c1, c2, c3, List.all_eq_true.2 fun e he => by simpa using hz e he⟩
      · cases hv
    · split at hv
      · rename_i hc
        obtain ⟨rfl, rfl⟩ := hc
        cases hv
        obtain ⟨ad, rfl⟩ := hx.esl_inv
        simp [lenA] at hn
        refine ⟨_, run ad 0 0 rfl hn (by omega) (by omega) (by omega), ?_⟩
        simp
        exact .esl
      · cases hv
    · rename_i b off m cap sz'
      split at hv
      · rename_i hc
        obtain ⟨c1, c2, c3, rfl⟩ := hc
        simp [lenA] at hn
        cases hx with
        | hsl0 _ =>
          have hl0 : l = 0 := by omega
          have hh0 : h = 0 := by omega
          subst hl0; subst hh0
          simp at hv
          subst hv
          have hr := run _ 0 0 rfl (by omega) c1 c2 (by omega)
          refine ⟨_, hr, ?_⟩
          exact .d .nil
        | hsl hφ hN hoN hle hcc hml =>
          rename_i g cap' N
          have hr := run _ m cap' rfl hn c1 c2 (by omega)
          split at hv
          · rename_i hlc
            cases hv
            refine ⟨_, hr, ?_⟩
            have e2 : h.toNat - l.toNat = 0 := by omega
            rw [e2]
            exact .d .nil
          · rename_i hlc
            cases hv
            refine ⟨_, hr, ?_⟩
            rw [if_neg (by omega)]
            simp only [Option.map_some, addr_lit]
            refine .hsl hφ hN ?_ (by omega) (by omega) (by omega)
            have : l.toNat * sz' + (cap' - l.toNat) * sz' = cap' * sz' := by rw [← Nat.add_mul]; congr 1; omega
            omega
      · cases hv
    · cases hv

theorem ok_sli {t : TypeId} {x : Operand} {lo hi : Option Operand} {x' : Opd} {lo' hi' : Option Opd} {l h' : Int} {n sz : Nat} {v : AV} (ho : o.op = .slice t x lo hi none) (hx : opd x = some x') (hlo : opdO lo = some lo') (hhi : opdO hi = some hi')
    (hs : SS σ s a) (h : HR σ H w) (hn : lenA (get s x') = some n) (hl : bnd s 0 lo' = some l) (hh : bnd s n hi' = some h') (hv : slA (get s x') l h' sz = some v)
    (ht : (P.underlying t = some .string ∧ ∃ b, get s x' = .d (.v (.string b))) ∨ (∃ e, P.underlying t = some (.slice e) ∧ szOf P e = some sz ∧ ∀ b, get s x' ≠ .d (.v (.string b)))) : OpOk P o a σ H w v H := by
  obtain ⟨u', hr, hvr⟩ := slA_sound (P := P) (get_sound hx hs) hn (bnd_sound hlo hs hl) (bnd_sound hhi hs hh) hv ht w
  refine .pure h ?_ hvr
  simp [execOp, ho, hr]

theorem ints_sound (hs : SS σ s a) : ∀ {xs : List Operand} {ys : List Opd} {ns : List (IntKind × Int)}, opds xs = some ys → ints s ys = some ns → xs.map a.eval = ns.map fun p => .int p.1 p.2
  | [], ys, ns, h, hn => by simp [opds] at h; subst h; simp [ints] at hn; subst hn; rfl
  | x :: xs, ys, ns, h, hn => by
    simp only [opds, List.mapM_cons, Option.bind_eq_bind, Option.bind_eq_some_iff] at h
    obtain ⟨y, hy, zs, hz, h⟩ := h
    simp at h; subst h
    simp only [ints] at hn
    split at hn
    · rename_i k n r e1 e2
      cases hn
      have h1 := get_sound hy hs
      rw [e1] at h1
      simp [h1.int_inv, ints_sound hs hz e2]
    · cases hn

theorem ok_mn {c : Call} {ys : List Opd} {k : IntKind} {n : Int} {r : List (IntKind × Int)} (ho : o.op = .call c) (hc : c.callee = .builtin .min) (hy : opds c.args.toList = some ys) (hs : SS σ s a) (h : HR σ H w)
    (hn : ints s ys = some ((k, n) :: r)) : OpOk P o a σ H w (.d (.v (.int k (r.foldl (fun a b => if b.2 < a then b.2 else a) n)))) H := by
  have hm := ints_sound hs hy hn
  have hf : ∀ (r : List (IntKind × Int)) (n : Int) (w : World), ((r.map fun p => Value.int p.1 p.2).foldlM Builtin.min2 (.int k n)).run P w = .ok (.int k (r.foldl (fun a b => if b.2 < a then b.2 else a) n)) w := by
    intro r
    induction r with
    | nil => intro n w; simp
    | cons p r ih => intro n w; simp [Builtin.min2, ih]
  refine .pure h ?_ (VR.mk_int _ _)
  have hA : (c.args.map a.eval).toList = .int k n :: r.map fun p => .int p.1 p.2 := by simpa using hm
  simp [execOp, ho, resolve, hc, invoke, builtin, Builtin.min_]
  simp at hA
  rw [hA]
  simp [hf]
theorem ok_mx {c : Call} {ys : List Opd} {k : IntKind} {n : Int} {r : List (IntKind × Int)} (ho : o.op = .call c) (hc : c.callee = .builtin .max) (hy : opds c.args.toList = some ys) (hs : SS σ s a) (h : HR σ H w)
    (hn : ints s ys = some ((k, n) :: r)) : OpOk P o a σ H w (.d (.v (.int k (r.foldl (fun a b => if b.2 > a then b.2 else a) n)))) H := by
  have hm := ints_sound hs hy hn
  have hf : ∀ (r : List (IntKind × Int)) (n : Int) (w : World), ((r.map fun p => Value.int p.1 p.2).foldlM Builtin.max2 (.int k n)).run P w = .ok (.int k (r.foldl (fun a b => if b.2 > a then b.2 else a) n)) w := by
    intro r
    induction r with
    | nil => intro n w; simp
    | cons p r ih => intro n w; simp [Builtin.max2, ih]
  refine .pure h ?_ (VR.mk_int _ _)
  have hA : (c.args.map a.eval).toList = .int k n :: r.map fun p => .int p.1 p.2 := by simpa using hm
  simp [execOp, ho, resolve, hc, invoke, builtin, Builtin.max_]
  simp at hA
  rw [hA]
  simp [hf]

theorem ok_mkf {f : FuncId} {first caps : Array Operand} {ys : List Opd} (ho : o.op = .makeFunc (.func f) first caps) (h0 : first.isEmpty = true) (hy : opds caps.toList = some ys) (hs : SS σ s a) (h : HR σ H w) :
    OpOk P o a σ H w (.fn f (ys.map (get s))) H := by
  have h0' : first = #[] := by simpa using h0
  have hv := opds_sound hs hy
  refine .pure h (u := .func (.func f) #[] (caps.toList.map a.eval).toArray) ?_ (.fn hv.1 hv.2)
  simp [execOp, ho, h0', Instr.makeFunc]
  apply Array.ext'
  simp

end
end Go.Proofs.Ytalhmnijkkihgaa
