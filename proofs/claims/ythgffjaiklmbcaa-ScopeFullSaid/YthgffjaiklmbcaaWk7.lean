/- A scope of the program: Declare, where it says yes. -/
import Derived.Test.YthgffjaiklmbcaaWk6
namespace Go.Proofs.Ythgffjaiklmbcaa
set_option linter.unusedSimpArgs false
set_option linter.unusedVariables false
set_option maxRecDepth 20000
set_option maxHeartbeats 2000000
open Go.RowKit

theorem eq_of_ex {α : Type} (x : α) : ∃ y, y = x := ⟨x, rfl⟩
theorem flat_sd (l : List ByteArray) (s : ByteArray) : l.map sd ++ [[Dat.v (.string s)]] = (l ++ [s]).map sd := by simp
theorem declV_yes {st : St} {s : ByteArray} (h1 : Nm s) (h2 : lvGet (lastL st) s = none) (h3 : (lastL st).length ≠ 256) : declV st s = 0 := by
  rw [declV, if_neg (by simpa using h1), h2, if_neg (by simp), if_neg h3]
/-- What the heap is like when the map is there. -/
structure Mid (H K : List ABlk) (sb kb mb ck : Nat) (r : Im) (d : Int) (s : ByteArray) : Prop where
  fs : K[sb]? = some (.cells [.mp mb, r.lA, r.f])
  fm : K[mb]? = some (.map kt ck (r.E.map En.e))
  fk : K[kb]? = some (.cells [iv d, sv s])
  fo : ∀ b ∈ r.F sb, b ≠ sb → b ∉ r.mB → K[b]? = H[b]?
  len : H.length < K.length
  fmb : mb ≠ sb ∧ (mb ∈ r.mB ∨ H.length ≤ mb)
  fkb : H.length ≤ kb ∧ kb ≠ mb
  old : ∀ b, b < H.length → b ∉ r.F sb → K[b]? = H[b]?


variable {H : List ABlk} {sb : Nat} {r : Im} {st : St} {s : ByteArray} {n : Int} {K : List ABlk} {mb ck : Nat}
theorem Mid.lA (h : ImAt H sb r st) (hM : Mid H K sb H.length mb ck r ((st.length : Int) - 1) s) : ∀ x, r.l = some x → K[x.1]? = some (.cells (r.rs ++ x.2.2)) := fun x hx => by
  have hnd := h.nd
  rw [hM.fo x.1 (by simp [Im.F, Im.lB, hx]) (fun e => by simp [Im.F, Im.lB, hx, e] at hnd) (fun e => by
    simp only [Im.F, List.nodup_cons, List.nodup_append] at hnd
    exact hnd.2.2.2 _ e x.1 (by simp [Im.lB, hx]) rfl)]
  exact (h.l x hx).1
theorem Mid.fin {H K' : List ABlk} {b : Nat} {init : List AV} {x f' : AV} {rs' : List AV} (h : ImAt H sb r st) (hM : Mid H K sb H.length mb ck r ((st.length : Int) - 1) s) (h1 : Nm s) (h2 : lvGet (lastL st) s = none) (h3 : (lastL st).length ≠ 256)
    (hr : r.f :: r.rs = init ++ [x]) (hr' : f' :: rs' = init ++ [.gsl b 1 (((lastL st).map (·.1) ++ [s]).map sd)]) (hb : b ∈ rowB x ∨ K.length ≤ b) (hlen : K.length ≤ K'.length)
    (g1 : K'[sb]? = some (.cells [.mp mb, r.lA, f'])) (g2 : K'[mb]? = some (.map kt (ck + 1) ((r.E ++ [En.mk ((st.length : Int) - 1) s n ck]).map En.e))) (g3 : K'[b]? = some (.row 9 1 ((lastL st).length + 1)))
    (g4 : ∀ x, r.l = some x → K'[x.1]? = some (.cells (rs' ++ x.2.2))) (g5 : ∀ c, c < K.length → c ≠ sb → c ≠ mb → c ∉ r.lB → c ≠ b → K'[c]? = K[c]?) :
    ∃ r', ImAt K' sb r' (declS st s n) ∧ Chg H (r.F sb) K' (r'.F sb) := by
  obtain ⟨⟨a1, a2, a3, a4⟩, a5, a6, a7, a8⟩ := nd_facts h.nd hr
  have hF := F_eq (sb := sb) hr
  have hlt := h.lt
  have hdv := declV_yes h1 h2 h3
  have hll := (h.lvs (lastL st) (List.mem_of_getElem? (last_get (by have := h.dl; omega)))).1
  have hmF : ∀ c ∈ r.F sb, c ∉ r.mB → c ≠ mb := fun c hc hm e => by
    rcases hM.fmb.2 with h' | h'
    · exact hm (e ▸ h')
    · have := hlt c hc; omega
  have hbF : ∀ c ∈ r.F sb, c ∉ rowB x → c ≠ b := fun c hc hm e => by
    rcases hb with h' | h'
    · exact hm (e ▸ h')
    · have := hlt c hc; have := hM.len; omega
  have m1 : ∀ c, c ∈ init.flatMap rowB → c ∈ r.F sb := fun c hc => by rw [hF]; simp only [List.mem_cons, List.mem_append]; exact .inr (.inr (.inr (.inl hc)))
  have m2 : ∀ c, c ∈ r.lB → c ∈ r.F sb := fun c hc => by rw [hF]; simp only [List.mem_cons, List.mem_append]; exact .inr (.inr (.inl hc))
  have m3 : ∀ c, c ∈ r.mB → c ∈ r.F sb := fun c hc => by rw [hF]; simp only [List.mem_cons, List.mem_append]; exact .inr (.inl hc)
  have m4 : ∀ c, c ∈ rowB x → c ∈ r.F sb := fun c hc => by rw [hF]; simp only [List.mem_cons, List.mem_append]; exact .inr (.inr (.inr (.inr hc)))
  have msb : sb ∈ r.F sb := by simp [Im.F]
  have hbm : b ≠ mb := fun e => by
    rcases hb with h' | h'
    · rcases hM.fmb.2 with h'' | h''
      · exact (a5 mb h'').2.2 (e ▸ h')
      · have := hlt b (m4 b h'); omega
    · have := (List.getElem?_eq_some_iff.1 hM.fm).1; omega
  refine ⟨_, by
    rw [declS, if_pos hdv]
    exact h.declR (H' := K') (b := b) (mb := mb) (ck := ck) hr hr' ⟨hM.fmb.1, fun e => hmF mb (m2 mb e) (fun e' => (a5 mb e').1 e) rfl, fun e => hmF mb (m1 mb e) (fun e' => (a5 mb e').2.1 e) rfl⟩
      ⟨fun e => hbF sb msb a4 e.symm, fun e => hbF b (m2 b e) (fun e' => (a6 b e).2 e') rfl, fun e => hbF b (m1 b e) (fun e' => a7 b e e') rfl, hbm⟩ h1.2.1 (by omega) h2 g1 g2 g3 g4 (fun c hc => by
        have hcs : c ≠ sb := fun e => a3 (e ▸ hc)
        have hcm : c ∉ r.mB := fun e => (a5 c e).2.1 hc
        rw [g5 c (Nat.lt_trans (hlt c (m1 c hc)) hM.len) hcs (hmF c (m1 c hc) hcm) (fun e => (a6 c e).1 hc) (hbF c (m1 c hc) (fun e => a7 c hc e)), hM.fo c (m1 c hc) hcs hcm]), ?_⟩
  refine ⟨Nat.le_trans (Nat.le_of_lt hM.len) hlen, fun c hc hF' => ?_, fun c hc => ?_⟩
  · rw [g5 c (Nat.lt_trans hc hM.len) (fun e => hF' (e ▸ msb)) (fun e => ?_) (fun e => hF' (m2 c e)) (fun e => ?_)]
    · exact hM.old c hc hF'
    · rcases hM.fmb.2 with h' | h'
      · exact hF' (m3 c (e ▸ h'))
      · omega
    · rcases hb with h' | h'
      · exact hF' (m4 c (e ▸ h'))
      · have := hM.len; omega
  · rw [F_eq (r := ⟨some (mb, ck + 1, r.E ++ [En.mk ((st.length : Int) - 1) s n ck]), r.l, f', rs'⟩) (sb := sb) hr'] at hc
    simp only [Im.mB, Im.lB, List.mem_cons, List.mem_append, rowB, List.not_mem_nil, or_false] at hc
    rcases hc with hc | hc | hc | hc | hc
    · exact .inl (hc ▸ msb)
    · rcases hM.fmb.2 with h' | h'
      · exact .inl (m3 c (hc ▸ h'))
      · exact .inr (by omega)
    · exact .inl (m2 c hc)
    · exact .inl (m1 c hc)
    · rcases hb with h' | h'
      · exact .inl (m4 c (hc ▸ h'))
      · exact .inr (by have := hM.len; omega)

end Go.Proofs.Ythgffjaiklmbcaa
