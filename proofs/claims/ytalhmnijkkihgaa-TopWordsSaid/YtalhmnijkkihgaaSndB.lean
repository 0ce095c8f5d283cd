/-
  One's own library, part 5i: conversions, slices of arrays, the first place of a byte.
-/
import Derived.Test.YtalhmnijkkihgaaSndA
import Derived.Laws.IdiomStrings
namespace Go.Proofs.Ytalhmnijkkihgaa
set_option linter.unusedVariables false
set_option linter.unusedSimpArgs false
set_option linter.unusedSectionVars false
open Go.RowKit

section
variable {P : Program} {o : Oper} {a : Act} {σ : Sg} {H : List ABlk} {w : World} {s : List AV}

theorem bytesOf_spec : ∀ {xs : List (List AV)} {l : List UInt8}, bytesOf xs = some l → ∃ ns : List Int, xs = ns.map (fun n => [AV.d (.v (.int .u8 n))]) ∧ l = ns.map fun n => UInt8.ofNat n.toNat
  | [], l, h => by simp [bytesOf] at h; subst h; exact ⟨[], rfl, rfl⟩
  | x :: r, l, h => by
    unfold bytesOf at h
    split at h
    · rename_i e; cases e
    · rename_i n r' e
      cases e
      split at h
      · rename_i l' e2
        cases h
        obtain ⟨ns, h1, h2⟩ := bytesOf_spec e2
        exact ⟨n :: ns, by simp [h1], by simp [h2]⟩
      · cases h
    · cases h

theorem foldl_push : ∀ (ns : List Int) (r : ByteArray), ns.foldl (fun r n => r.push (UInt8.ofNat n.toNat)) r = ⟨r.data ++ (ns.map fun n => UInt8.ofNat n.toNat).toArray⟩
  | [], r => by simp
  | n :: ns, r => by
    rw [List.foldl_cons, foldl_push ns]
    simp [ByteArray.push]

theorem flatten_single {α β : Type} (f : α → β) : ∀ l : List α, (l.map fun x => [f x]).flatten = l.map f
  | [] => rfl
  | x :: l => by simp [flatten_single f l]
theorem VD.plain_inv {M : Mem} {x u : Value} (h : VD M (.v x) u) : u = x := by cases h; rfl

theorem byteT_spec {t : TypeId} (h : byteT P t = true) : ∃ e, P.underlying t = some (.slice e) ∧ P.underlying e = some (.int .u8) ∧ szOf P e = some 1 := by
  unfold byteT at h
  split at h
  · rename_i e he
    simp only [Bool.and_eq_true, beq_iff_eq] at h
    refine ⟨e, ?_, ?_, h.2⟩
    · unfold elOf at he
      simp only [Option.bind_eq_some_iff] at he
      obtain ⟨d, hd, he⟩ := he
      split at he
      · cases he; exact hd
      · cases he
    · have h1 := h.1
      split at h1
      · assumption
      · cases h1
  · cases h

theorem ok_b2s {r t : TypeId} {x : Operand} {x' : Opd} {v : AV} {H' : List ABlk} (ho : o.op = .convert r t x) (hr : byteT P r = true) (ht : P.underlying t = some .string) (hx : opd x = some x') (hs : SS σ s a) (h : HR σ H w)
    (hv : evK (.b2s x') s H = some (v, H')) : OpOk P o a σ H w v H' := by
  obtain ⟨e, h1, h2, h3⟩ := byteT_spec hr
  have hvr := get_sound hx hs
  simp only [evK] at hv
  split at hv
  · rename_i hstr
    split at hv
    · rename_i xs e1
      split at hv
      · rename_i l e2
        cases hv
        obtain ⟨ns, rfl, rfl⟩ := bytesOf_spec e2
        have hd : datss (ns.map fun n => [AV.d (.v (.int .u8 n))]) = some (ns.map fun n => [Dat.v (.int .u8 n)]) := by
          have : (ns.map fun n => [AV.d (.v (.int .u8 n))]) = (ns.map fun n => [Dat.v (.int .u8 n)]).map (·.map .d) := by simp
          rw [this, datss_map_d]
        have hk : (elOf P r).isSome = true ∨ P.underlying r = some .string := .inl (by simp [elOf, h1])
        obtain ⟨news, q1, q2, q3, _⟩ := src_sound (P := P) hk h hvr e1 hd
        rw [flatten_single] at q2
        have hnews : news = ns.map (Value.int .u8) := by
          apply List.ext_getElem?
          intro i
          have hl := q2.1
          rw [List.length_map] at hl
          by_cases hi : i < ns.length
          · have := q2.2 i (.v (.int .u8 ns[i])) (news[i]'(by omega)) (by simp [hi]) (List.getElem?_eq_getElem (by omega))
            rw [List.getElem?_eq_getElem (by omega), this.plain_inv]
            simp [hi]
          · rw [List.getElem?_eq_none (by omega), List.getElem?_eq_none (by simp; omega)]
        subst hnews
        refine .pure h ?_ (VR.mk_str _)
        have hcs := q1.cells
        have hln := q1.len w
        have fin : ∀ ad n c, a.eval x = .slice ad n c → (convert r t (a.eval x)).run P w = .ok (.string ⟨(ns.map fun n => UInt8.ofNat n.toNat).toArray⟩) w := by
          intro ad n c hu
          rw [hu] at hcs hln ⊢
          rw [run_convert_bytes_string w r t e ad n c h1 h2 ht]
          simp [Builtin.lenOf] at hln
          subst hln
          cases ad with
          | none =>
            have : ns = [] := by
              simp [Builtin.firstCells] at hcs
              exact hcs
            subst this
            rfl
          | some a' =>
            rw [run_bytesToString w a' _ c ns (by simpa [Builtin.firstCells] using hcs), foldl_push, show ByteArray.empty.data = #[] from rfl, Array.empty_append]
        have hconv : (convert r t (a.eval x)).run P w = .ok (.string ⟨(ns.map fun n => UInt8.ofNat n.toNat).toArray⟩) w := by
          cases hu : a.eval x with
          | slice ad n c => rw [← hu]; exact fin ad n c hu
          | string b =>
            exfalso
            rw [hu] at hvr
            generalize get s x' = X at hstr e1 hvr
            cases hvr with
            | any => simp [elemsA] at e1
            | d hd => cases hd; simp [isStr] at hstr
            | gsl _ _ hd => cases hd
          | _ => rw [hu] at hln; simp [Builtin.lenOf, stuck, Sem.run] at hln
        simp [execOp, ho, hconv]
      · cases hv
    · cases hv
  · cases hv

theorem ok_s2b {r t : TypeId} {x : Operand} {x' : Opd} {v : AV} {H' : List ABlk} {n : Nat} (ho : o.op = .convert r t x) (hr : P.underlying r = some .string) (ht : byteT P t = true) (hx : opd x = some x') (hs : SS σ s a) (h : HR σ H w)
    (hv : evK (.s2b .im n x') s H = some (v, H')) : OpOk P o a σ H w v H' := by
  obtain ⟨e, h1, h2, h3⟩ := byteT_spec ht
  have hvr := get_sound hx hs
  simp only [evK] at hv
  split at hv
  · rename_i b e1
    rw [e1] at hvr
    split at hv
    · rename_i hb
      cases hv
      have hu := hvr.str_inv
      have hrun := Go.run_bytes_of_string (P := P) w r t e b hr h1 h2
      obtain ⟨σ', x1, x2, x3, _⟩ := h.drew.allocMF e (bytesRow b (grownCap w b.size 0 e)) ((bytesRow b (grownCap w b.size 0 e)).size, (bytesRow b (grownCap w b.size 0 e)).size + 1)
      refine ⟨σ', _, _, .inl (by simp [execOp, ho, hu, hrun]; rfl), (Ext.drew ..).trans x1, x2, .d ?_⟩
      have hge : b.size ≤ grownCap w b.size 0 e := grownCap_ge w b.size 0 e
      have hcm : grownCap w b.size 0 e ≤ maxLen := grownCap_le_maxLen w _ 0 e hb
      have hl : (b.data.toList.map fun c => [Dat.v (.int .u8 c.toNat)]).length = b.size := by rw [List.length_map, Array.length_toList]; rfl
      have := VD.of_cells (M := σ'.M) (es := b.data.toList.map fun c => [Dat.v (.int .u8 c.toNat)]) (sz := 1) (fun e he => by obtain ⟨c, _, rfl⟩ := List.mem_map.1 he; rfl) ⟨w.heap.size, 0, none⟩ (grownCap w b.size 0 e) (by rw [hl]; exact hge) hcm
        (us := b.data.toList.map fun c => Value.int .u8 c.toNat) (by
          rw [flatten_single]
          refine ⟨by simp, fun i d u k1 k2 => ?_⟩
          rw [List.getElem?_map, Option.map_eq_some_iff] at k1 k2
          obtain ⟨c, hc, rfl⟩ := k1
          obtain ⟨c', hc', rfl⟩ := k2
          rw [hc] at hc'; cases hc'
          exact .v rfl) (fun j u hj => by
          rw [addr_lit, Nat.zero_add]
          refine x3 j u ?_
          rw [List.getElem?_map, Option.map_eq_some_iff] at hj
          obtain ⟨c, hc, rfl⟩ := hj
          have hlt : j < b.data.size := by
            have := (List.getElem?_eq_some_iff.1 hc).1
            rwa [Array.length_toList] at this
          have hlt' : j < b.size := hlt
          simp [bytesRow, Array.getElem?_append]
          rw [if_pos hlt']
          rw [Array.getElem?_toList] at hc
          rw [hc]; rfl)
      rw [hl] at this
      exact this
    · cases hv
  · cases hv

theorem extIxb_find {fn : Func} (hn : fn.name = "internal/bytealg.IndexByteString") (ho : fn.origin = "") : Extern.findNext fn = none ∧ Extern.find fn = some Extern.BytealgIndexByte.indexByte := by
  refine ⟨?_, ?_⟩
  · unfold Extern.findNext
    rw [hn, ho]
    simp only
    have h1 : Extern.allNextRows.lookup "internal/bytealg.IndexByteString" = none := by kernel_rfl
    have h2 : Extern.allNextRows.lookup "" = none := by kernel_rfl
    rw [h1, h2]; rfl
  · unfold Extern.find
    rw [hn, ho]
    simp only
    have h1 : Extern.allGenericRows.lookup "internal/bytealg.IndexByteString" = none := by kernel_rfl
    have h2 : Extern.allTypedRows.lookup "internal/bytealg.IndexByteString" = none := by kernel_rfl
    have h3 : Extern.allRows.lookup "internal/bytealg.IndexByteString" = some Extern.BytealgIndexByte.indexByte := by kernel_rfl
    rw [h1, h2, h3]; rfl

theorem idxB_eq : ∀ (l : List UInt8) (c : UInt8), idxB l c = Lib.indexByte l c
  | [], _ => rfl
  | b :: l, c => by unfold idxB Lib.indexByte; rw [idxB_eq l c]

theorem ok_ixb {c : Call} {f : FuncId} {x y : Operand} {x' y' : Opd} {v : AV} {H' : List ABlk} (ho : o.op = .call c) (hc : c.callee = .value (.func f)) (hA : c.args.toList = [x, y]) (hf : extIxb P f = true)
    (hx : opd x = some x') (hy : opd y = some y') (hs : SS σ s a) (h : HR σ H w) (hv : evK (.ixb f x' y') s H = some (v, H')) : OpOk P o a σ H w v H' := by
  have hA' : c.args = #[x, y] := by rw [← Array.toArray_toList (xs := c.args), hA]
  have h1 := get_sound hx hs
  have h2 := get_sound hy hs
  unfold extIxb at hf
  split at hf
  · rename_i fn hfn
    simp only [Bool.and_eq_true, beq_iff_eq] at hf
    obtain ⟨⟨hn, hb⟩, hor⟩ := hf
    obtain ⟨g1, g2⟩ := extIxb_find hn hor
    have hcf := run_callFunc_extern (P := P) hfn (by rw [hn]; decide) hb g1 g2
    simp only [evK] at hv
    split at hv
    · rename_i b n e1 e2
      rw [e1] at h1
      rw [e2] at h2
      cases hv
      refine .pure h ?_ (VR.mk_int _ _)
      have hr := Lib.run_indexByteString (P := P) b n w
      rw [idxB_eq]
      have hfe : a.eval (.func f) = .func (.func f) #[] #[] := rfl
      simp [execOp, ho, resolve, hc, hA', hfe, Deferred.ofValue, invoke, h1.str_inv, h2.int_inv, hcf, hr]
    · cases hv
  · cases hf

theorem ptT_arr {t r e : TypeId} {n : Nat} (h1 : P.underlying t = some (.pointer r)) (h2 : arT P r = some (n, e)) : P.underlying r = some (.array n e) := by
  unfold arT at h2
  simp only [Option.bind_eq_some_iff] at h2
  obtain ⟨d, hd, h2⟩ := h2
  split at h2
  · cases h2; exact hd
  · cases h2

theorem run_sliceBound {x : Value} {k : IntKind} {i : Int} {y : Nat} {code : BoundsCode} (hx : x = .int k i) (h0 : 0 ≤ i) (h1 : i ≤ y) : (Instr.sliceBound x y code).run P w = .ok i.toNat w := by
  subst hx
  simp [Instr.sliceBound, asIntOf, h0, h1]

theorem ok_sla {t r e : TypeId} {x : Operand} {lo hi : Option Operand} {x' : Opd} {lo' hi' : Option Opd} {n sz : Nat} {v : AV} {H' : List ABlk} (ho : o.op = .slice t x lo hi none) (ht : P.underlying t = some (.pointer r)) (hr : P.underlying r = some (.array n e)) (hz : szOf P e = some sz)
    (hx : opd x = some x') (hlo : opdO lo = some lo') (hhi : opdO hi = some hi') (hs : SS σ s a) (h : HR σ H w) (hv : evK (.sla x' lo' hi' n sz) s H = some (v, H')) : OpOk P o a σ H w v H' := by
  have h1 := get_sound hx hs
  simp only [evK] at hv
  split at hv
  · rename_i b off e1
    rw [e1] at h1
    split at hv
    · rename_i cs l h' hb hl hh
      split at hv
      · rename_i hc
        obtain ⟨hc, hnm⟩ := hc
        split at hv
        · rename_i v' e2
          cases hv
          generalize hp : a.eval x = p at h1
          cases h1 with
          | ptr hφ =>
            rename_i g
            obtain ⟨vs, t', g1, g2, g3, g4⟩ := h.cellsAt hb hφ
            have hcl := g3.1
            rw [List.length_take, Array.length_toList (xs := vs)] at hcl
            have hl' := bnd_sound hlo hs hl
            have hh' := bnd_sound hhi hs hh
            simp only [slA] at e2
            split at e2
            · rename_i hcc
              obtain ⟨c1, c2, c3, _⟩ := hcc
              have hrun : (execOp a.eval o).run P w = .ok (.value (.slice (some (if n = l.toNat then ⟨g, off, none⟩ else (⟨g, off, none⟩ : Addr).add (l.toNat * sz))) (h'.toNat - l.toNat) (n - l.toNat))) w := by
                simp [execOp, ho, hp, Instr.sliceAt, Instr.slice, Instr.sureAddr, run_underlying ht, run_underlying hr, asAddr, run_sliceBounds (P := P) (b := false) hl' hh' c1 c2 c3, szOf_run hz]
              split at e2
              · rename_i hln
                cases e2
                have h0 : h'.toNat - l.toNat = 0 := by omega
                rw [h0] at hrun
                exact .pure h hrun (.d .nil)
              · rename_i hln
                cases e2
                rw [if_neg (by omega)] at hrun
                refine .pure h hrun ?_
                rw [addr_lit]
                refine .hsl hφ g1 ?_ (by omega) (Nat.le_refl _) (by omega)
                have : l.toNat * sz + (n - l.toNat) * sz = n * sz := by rw [← Nat.add_mul]; congr 1; omega
                omega
            · cases e2
        · cases hv
      · cases hv
    · cases hv
  · cases hv
theorem ok_slb {t e : TypeId} {x : Operand} {lo hi : Option Operand} {x' : Opd} {lo' hi' : Option Opd} {n sz : Nat} {v : AV} {H' : List ABlk} (ho : o.op = .slice t x lo hi none) (ht : P.underlying t = some (.array n e)) (hz : szOf P e = some sz)
    (hx : opd x = some x') (hlo : opdO lo = some lo') (hhi : opdO hi = some hi') (hs : SS σ s a) (h : HR σ H w) (hv : evK (.sla x' lo' hi' n sz) s H = some (v, H')) : OpOk P o a σ H w v H' := by
  have h1 := get_sound hx hs
  simp only [evK] at hv
  split at hv
  · rename_i b off e1
    rw [e1] at h1
    split at hv
    · rename_i cs l h' hb hl hh
      split at hv
      · rename_i hc
        obtain ⟨hc, hnm⟩ := hc
        split at hv
        · rename_i v' e2
          cases hv
          generalize hp : a.eval x = p at h1
          cases h1 with
          | ptr hφ =>
            rename_i g
            obtain ⟨vs, t', g1, g2, g3, g4⟩ := h.cellsAt hb hφ
            have hcl := g3.1
            rw [List.length_take, Array.length_toList (xs := vs)] at hcl
            have hl' := bnd_sound hlo hs hl
            have hh' := bnd_sound hhi hs hh
            simp only [slA] at e2
            split at e2
            · rename_i hcc
              obtain ⟨c1, c2, c3, _⟩ := hcc
              have hrun : (execOp a.eval o).run P w = .ok (.value (.slice (some (if n = l.toNat then ⟨g, off, none⟩ else (⟨g, off, none⟩ : Addr).add (l.toNat * sz))) (h'.toNat - l.toNat) (n - l.toNat))) w := by
                simp [execOp, ho, hp, Instr.sliceAt, Instr.sureAddr, run_underlying ht, asAddr, run_sliceBounds (P := P) (b := false) hl' hh' c1 c2 c3, szOf_run hz]
              split at e2
              · rename_i hln
                cases e2
                have h0 : h'.toNat - l.toNat = 0 := by omega
                rw [h0] at hrun
                exact .pure h hrun (.d .nil)
              · rename_i hln
                cases e2
                rw [if_neg (by omega)] at hrun
                refine .pure h hrun ?_
                rw [addr_lit]
                refine .hsl hφ g1 ?_ (by omega) (Nat.le_refl _) (by omega)
                have : l.toNat * sz + (n - l.toNat) * sz = n * sz := by rw [← Nat.add_mul]; congr 1; omega
                omega
            · cases e2
        · cases hv
      · cases hv
    · cases hv
  · cases hv
end
end Go.Proofs.Ytalhmnijkkihgaa
