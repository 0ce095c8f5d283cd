/- The reference's Trim. -/
import Derived.Test.YthifjndenhjobaaZR6
import Derived.Test.YthifjndenhjobaaZJA
import Derived.Test.YthifjndenhjobaaZID
namespace Go.Proofs.Ythifjndenhjobaa
set_option linter.unusedSimpArgs false
set_option linter.unusedVariables false
set_option maxRecDepth 20000
set_option maxHeartbeats 4000000
open Go.RowKit

theorem RQ.set {t : List Ty} {tb kb qb gb : Nat} {fb pb : Nat → Nat} {H : List ABlk} {o : List Int} (h : RQ t tb fb pb kb qb H gb o) {b : Nat} (hb : ¬ Stc t tb fb pb b) (h1 : b ≠ kb) (h2 : b ≠ qb) (h3 : b ≠ gb) (k : ABlk) : RQ t tb fb pb kb qb (H.set b k) gb o :=
 ⟨by rw [List.getElem?_set_ne fun e => hb (.inl e)]; exact h.ht, fun a ha => by rw [List.getElem?_set_ne fun e => hb (.inr ⟨a, ha, .inl e⟩)]; exact h.hf a ha, fun a ha => by rw [List.getElem?_set_ne fun e => hb (.inr ⟨a, ha, .inr e⟩)]; exact h.hp a ha,
   by rw [List.getElem?_set_ne h1]; exact h.hk, by rw [List.getElem?_set_ne h2]; exact h.hq, fun ho => ⟨by rw [List.getElem?_set_ne h3]; exact (h.hg ho).1, (h.hg ho).2⟩, h.hs, h.hn⟩
structure OI (f : Fc) (tb ob : Nat) (fb pb : Nat → Nat) (H : List ABlk) (m : Nat) (o : List Int) (os : Nat → List Int) (g : RG) : Prop where
 hi : g.i ≤ f.objs.length
 q : RQ f.types tb fb pb (m + 1) m g.H g.gb (os g.i)
 t1 : g.H[H.length]? = some (ABlk.cells [sv f.name, wv f.key, usv f.uses, .hsl tb 0 f.types.length f.types.length 10, .hsl ob 0 f.objs.length f.objs.length 7])
 tz : g.H[H.length + 1]? = some (.cells zeA)
 tob : g.H[ob]? = some (.cells (obC (mOb o f.objs g.i)))
 tlo : ∀ b, b < H.length → g.H[b]? = H[b]?
 tlen : m + 2 ≤ g.H.length
 tgb : g.gb = m + 1 ∨ m + 2 ≤ g.gb
def nbF (o : List Int) (fb : Nat → Nat) (j : Nat) : Nat := if j < 7 then fb j else fb (o.getD (j - 7) 0).toNat
theorem tcV_n {f : Fc} {o : List Int} {fb pb : Nat → Nat} (hg : GoodP f.types) : tcV f o fb pb o.length = tcR (newT f.name f.types o) (nbF o fb) (nbF o pb) := by
 rw [tcV, tcR, newT_len, List.range_add, List.map_append, List.flatten_append, tcU, List.map_map]
 congr 2
 ·refine List.map_congr_left fun j hj => ?_
  have hj := List.mem_range.1 hj
  rw [newT_lo hj, hg.bas j hj, nbF, nbF, if_pos hj, if_pos hj]
 ·refine List.map_congr_left fun k hk => ?_
  have hk := List.mem_range.1 hk
  show _ = tkR ((newT f.name f.types o).getD (7 + k) default) (nbF o fb (7 + k)) (nbF o pb (7 + k))
  rw [newT_hi hk, nbF, nbF, if_neg (by omega), if_neg (by omega), show 7 + k - 7 = k by omega]
theorem XT_n {f : Fc} {o : List Int} (hg : GoodP f.types) (ho : Ord f.types o) {j : Nat} (hj : j < (newT f.name f.types o).length) :
 ∃ a, a < f.types.length ∧ (∀ fb : Nat → Nat, nbF o fb j = fb a) ∧ ((newT f.name f.types o).getD j default).fields = (XT f o o.length a).fields ∧ ((newT f.name f.types o).getD j default).params = (XT f o o.length a).params := by
 have h7 := hg.len.1
 by_cases h : j < 7
 ·have hn : ¬ ((j : Nat) : Int) ∈ o.take o.length := fun hm => by
   have := ho.rng _ (List.mem_of_mem_take hm); omega
  refine ⟨j, by omega, fun fb => by rw [nbF, if_pos h], ?_, ?_⟩
  ·rw [newT_lo h, XT, if_neg hn, hg.bas j h]
  ·rw [newT_lo h, XT, if_neg hn, hg.bas j h]
 ·rw [newT_len] at hj
  obtain ⟨k, rfl⟩ : ∃ k, j = 7 + k := ⟨j - 7, by omega⟩
  have hk : k < o.length := by omega
  have hr := ho.rng _ (mem_getD hk)
  have hm : (((o.getD k 0).toNat : Nat) : Int) ∈ o.take o.length := by
   rw [List.take_length, show (((o.getD k 0).toNat : Nat) : Int) = o.getD k 0 by omega]; exact mem_getD hk
  refine ⟨(o.getD k 0).toNat, by omega, fun fb => by rw [nbF, if_neg h, show 7 + k - 7 = k by omega], ?_, ?_⟩
  ·rw [newT_hi hk, XT, if_pos hm]; rfl
  ·rw [newT_hi hk, XT, if_pos hm]; rfl
theorem rTrim_c {f : Fc} (hf : FIn f) (hs : Small f.types) (hu : f.uses.length ≤ 9000000) (ho : f.objs.length ≤ 9000000) (H : List ABlk) : ACalls Try.prog 24 [f.av] H (TrR f H) := by
 refine ACalls.into Try.func24 cc24r rr24r fun hcl => ?_
 simp (maxSteps := 2000000) (disch := omega) only [Try.ntmps24, c24r, r24r, Fc.cs, go_sem, seval, reduceCtorEq]
 refine Cont.rel (shaped_c hf hs _) ?_
 rintro v H' ⟨⟨B, rfl, hB⟩, rfl⟩
 have no : ∀ {G : List ABlk}, ¬ FrameP f → H <+: G → Ret [RC.c 2 5 true, RC.t 3] H.length (TrR f H) (some (.tup [.agg zeA, iv 160])) G := fun {G} hF hG => by
  refine Ret.pre (.tup [zeF.av, iv 160]) H hG (Nat.le_refl _) hcl ze_wk (by simp [refs, refs.refsL, Fc.cs, zeF]) ?_
  rw [TrR, trimV_no hF]; exact ⟨rfl, rfl⟩
 cases hBv : B with
 | false =>
  simp (maxSteps := 2000000) (disch := omega) only [go_sem, seval, reduceCtorEq]
  exact no (fun h => by have := hB.2 h.toShapeP; rw [hBv] at this; cases this) (List.prefix_append _ _)
 | true =>
 have hSh := hB.1 hBv
 have hgd := hSh.ty
 have h7 := hgd.len
 obtain ⟨K0, hK0⟩ : ∃ K0, H ++ [ABlk.cells [sv f.name, wv f.key, usv f.uses, tv f.types, obv f.objs], ABlk.cells zeA] = K0 := ⟨_, rfl⟩
 have b1 : ∀ l, (K0 ++ l)[H.length]? = some (.cells [sv f.name, wv f.key, usv f.uses, tv f.types, obv f.objs]) := fun l => hold (by rw [← hK0, List.getElem?_append_right (Nat.le_refl _), Nat.sub_self]; rfl) _
 have b2 : ∀ l, (K0 ++ l)[H.length + 1]? = some (.cells zeA) := fun l => hold (by rw [← hK0, List.getElem?_append_right (by omega), show H.length + 1 - H.length = 1 by omega]; rfl) _
 have b10 := b1 []
 have b20 := b2 []
 rw [List.append_nil] at b10 b20
 have l0 : K0.length = H.length + 2 := by rw [← hK0]; simp
 have w0 : H <+: K0 := ⟨_, hK0⟩
 have hclK : cl K0 := by rw [← hK0]; exact hcl.append (by simp [ABlk.refs, refs.refsL, refs])
 simp (maxSteps := 2000000) (disch := omega) only [go_sem, seval, reduceCtorEq]
 obtain ⟨S, hS⟩ : ∃ S : Nat → List AV, ∀ i, S i = [.any, .ptr H.length 0, .ptr (H.length + 1) 0, iv 0, iv i] ++ List.replicate 183 .any := ⟨_, fun _ => rfl⟩
 refine W.loopG (γ := Nat) (fun i => f.types.length - i) S (fun _ => K0) (fun i => i ≤ f.types.length ∧ ∀ j, j < i → (f.types.getD j default).form = 9 → (f.types.getD j default).mod ≠ f.name → 0 ≤ (f.types.getD j default).desc) 7 (by rw [← hK0]; exact Wk.slots (by rw [hS]; exact WkL.tail 5 _ rfl (by simp only [List.take_succ_cons, List.take_zero]; repeat' first | exact WkL.nil | refine WkL.cons (Wk1.rfl _) ?_ | refine WkL.cons Wk1.esl ?_ | refine WkL.cons (Wk1.gsl _ _ _) ?_ | refine WkL.cons (Wk1.any _) ?_))) ⟨h7.1, fun j hj h9 => by rw [hgd.bas j hj] at h9; have : (j : Int) = 9 := h9; omega⟩ (fun i hi => ?_)
 obtain ⟨hi, hq⟩ := hi
 by_cases hi3 : i < f.types.length
 ·have hia := iaA_ty (t := f.types) (a := i) (by omega) (by omega)
  rw [tyAt_n] at hia
  obtain ⟨x, hx⟩ : ∃ x, f.types.getD i default = x := ⟨_, rfl⟩
  rw [hx] at hia
  obtain ⟨P, hP⟩ : ∃ P, K0 ++ [ABlk.cells x.cs] = P := ⟨_, rfl⟩
  have pc : P[K0.length]? = some (.cells x.cs) := by rw [← hP, List.getElem?_concat_length]
  have p1 : P[H.length]? = some (.cells [sv f.name, wv f.key, usv f.uses, tv f.types, obv f.objs]) := by rw [← hP]; exact b1 _
  have p2 : P[H.length + 1]? = some (.cells zeA) := by rw [← hP]; exact b2 _
  rw [l0] at pc
  have kg : ∀ k, (K0 ++ [k])[H.length + 2]? = some k := fun k => by rw [← l0, List.getElem?_concat_length]
  have ks : ∀ k k', (K0 ++ [k]).set (H.length + 2) k' = K0 ++ [k'] := fun k k' => by rw [← l0, List.set_append_right _ _ (Nat.le_refl _), Nat.sub_self]; rfl
  simp only [Ty.cs] at hP pc
  have nx : ∀ {s' : List AV}, (x.form = 9 → x.mod ≠ f.name → 0 ≤ x.desc) → WkL s' (S (i + 1)) → Nxt H.length (fun i => f.types.length - i) S (fun _ => K0) (fun i => i ≤ f.types.length ∧ ∀ j, j < i → (f.types.getD j default).form = 9 → (f.types.getD j default).mod ≠ f.name → 0 ≤ (f.types.getD j default).desc) (f.types.length - i) s' P := fun {s'} h1 hw => by
   rw [← hP]
   refine Nxt.mk (i + 1) (by omega) (Wk.drop hw (by omega) hclK (by rw [hS]; simp [refs.refsL, refs, l0])) ⟨by omega, fun j hj => ?_⟩
   by_cases e : j = i
   ·subst e; rw [hx]; exact h1
   ·exact hq j (by omega)
  have p2s : ∀ k : ABlk, (P.set (H.length + 1) k)[H.length + 1]? = some k := fun k => List.getElem?_set_self (by rw [← hP]; simp [l0])
  have pw : ∀ k : ABlk, H <+: P.set (H.length + 1) k := fun k => by
   refine pre_out fun c hc => ?_
   rw [List.getElem?_set_ne (by omega), ← hP, List.getElem?_append_left (by omega), ← hK0, List.getElem?_append_left hc]
  by_cases k9 : x.form = 9
  ·by_cases km : x.mod = f.name
   ·simp (maxSteps := 2000000) (disch := omega) only [c24rl4, hS, b10, List.length_map, hia, Ty.c, l0, kg, ks, hP, pc, p1, decide_eq_true k9, decide_eq_true km, go_sem, seval, reduceCtorEq]
    refine nx (fun _ h => absurd km h) ?_
    rw [hS]
    exact WkL.tail 5 _ rfl (by simp only [List.take_succ_cons, List.take_zero]; repeat' first | exact WkL.nil | refine WkL.cons (Wk1.rfl _) ?_ | refine WkL.cons Wk1.esl ?_ | refine WkL.cons (Wk1.gsl _ _ _) ?_ | refine WkL.cons (Wk1.any _) ?_)
   ·by_cases kd : x.desc < 0
    ·simp (maxSteps := 2000000) (disch := omega) only [c24rl4, hS, b10, List.length_map, hia, Ty.c, l0, kg, ks, hP, pc, p1, p2, p2s, decide_eq_true k9, decide_eq_false km, kd, go_sem, seval, reduceCtorEq]
     exact no (fun h => by have := h.oth i hi3 (by rw [hx]; exact k9) (by rw [hx]; exact km); rw [hx] at this; omega) (pw _)
    ·simp (maxSteps := 2000000) (disch := omega) only [c24rl4, hS, b10, List.length_map, hia, Ty.c, l0, kg, ks, hP, pc, p1, decide_eq_true k9, decide_eq_false km, kd, go_sem, seval, reduceCtorEq]
     refine nx (fun _ _ => by omega) ?_
     rw [hS]
     exact WkL.tail 5 _ rfl (by simp only [List.take_succ_cons, List.take_zero]; repeat' first | exact WkL.nil | refine WkL.cons (Wk1.rfl _) ?_ | refine WkL.cons Wk1.esl ?_ | refine WkL.cons (Wk1.gsl _ _ _) ?_ | refine WkL.cons (Wk1.any _) ?_)
  ·simp (maxSteps := 2000000) (disch := omega) only [c24rl4, hS, b10, List.length_map, hia, Ty.c, l0, kg, ks, hP, pc, p1, decide_eq_false k9, go_sem, seval, reduceCtorEq]
   refine nx (fun h => absurd h k9) ?_
   rw [hS]
   exact WkL.tail 5 _ rfl (by simp only [List.take_succ_cons, List.take_zero]; repeat' first | exact WkL.nil | refine WkL.cons (Wk1.rfl _) ?_ | refine WkL.cons Wk1.esl ?_ | refine WkL.cons (Wk1.gsl _ _ _) ?_ | refine WkL.cons (Wk1.any _) ?_)
 have hF : FrameP f := ⟨hSh, fun j hj => hq j (by omega)⟩
 have hvis := ordF_vis hF
 simp (maxSteps := 2000000) (disch := omega) only [c24rl4, hS, b10, List.length_map, go_sem, seval, reduceCtorEq]
 refine Cont.rel (rcopy16_h hs (by omega) hu ho _) ?_
 rintro v G ⟨tb, ob, fb, pb, rfl, hC⟩
 obtain ⟨hclo, hct, hcf, hcp, hco, hcn⟩ := hC
 obtain ⟨hn1, hn2, hn3, hn4, hn5, hn6, hn7⟩ := hcn
 have G0 : G[H.length]? = some (.cells [sv f.name, wv f.key, usv f.uses, tv f.types, obv f.objs]) := (hclo _ (by omega)).trans b10
 have Gz : G[H.length + 1]? = some (.cells zeA) := (hclo _ (by omega)).trans b20
 have GH : ∀ b, b < H.length → G[b]? = H[b]? := fun b hb => by rw [hclo b (by omega), ← hK0, List.getElem?_append_left hb]
 have ltb := (List.getElem?_eq_some_iff.1 hct).1
 have lob := (List.getElem?_eq_some_iff.1 hco).1
 have lfb : ∀ a, a < f.types.length → fb a < G.length ∧ pb a < G.length := fun a ha => ⟨(List.getElem?_eq_some_iff.1 (hcf a ha)).1, (List.getElem?_eq_some_iff.1 (hcp a ha)).1⟩
 have lG0 : H.length + 2 ≤ G.length := by omega
 obtain ⟨G1, hG1⟩ : ∃ G1, G.set H.length (ABlk.cells [sv f.name, wv f.key, usv f.uses, .hsl tb 0 f.types.length f.types.length 10, .hsl ob 0 f.objs.length f.objs.length 7]) = G1 := ⟨_, rfl⟩
 have l1 : G1.length = G.length := by rw [← hG1, List.length_set]
 have a0 : G1[H.length]? = some (ABlk.cells [sv f.name, wv f.key, usv f.uses, .hsl tb 0 f.types.length f.types.length 10, .hsl ob 0 f.objs.length f.objs.length 7]) := by rw [← hG1, List.getElem?_set_self (by omega)]
 have a1 : ∀ b, b ≠ H.length → G1[b]? = G[b]? := fun b hb => by rw [← hG1, List.getElem?_set_ne (Ne.symm hb)]
 have mx : maxLen = 9223372036854775807 := mx_eq
 have kq : kill [G.length] G1 = G1 := by rw [kill_c, List.set_eq_of_length_le (by omega), kill_0]
 have rp : (List.replicate f.types.length [iv 0]).flatten = plR [] f.types.length := by
  rw [plR]
  have : ∀ n : Nat, (List.replicate n [iv 0]).flatten = (List.range n).map fun a : Nat => iv (if (a : Int) ∈ ([] : List Int) then pl [] a else 0) := fun n => by
   refine List.ext_getElem? fun i => ?_
   rw [List.flatten_replicate_singleton]
   by_cases h : i < n <;> simp [List.getElem?_replicate, h]
  exact this _
 simp (maxSteps := 2000000) (disch := omega) only [G0, hG1, go_sem, seval, reduceCtorEq]
 refine W.dregD [([], [G.length]), ([], [G.length]), ([], []), ([], []), ([], []), ([G.length], []), ([], []), ([G.length + 1], []), ([], [])] follows (by decide +kernel) rfl rfl (fun z hz b hb => ?_) ?_
 ·have hn : z.2 = [] ∧ G1.length ≤ b := by
   simp only [List.mem_cons, List.not_mem_nil, or_false] at hz
   rcases hz with rfl | rfl | rfl | rfl | rfl | rfl | rfl | rfl | rfl <;> simp only [List.mem_cons, List.not_mem_nil, or_false] at hb <;> first | exact hb.elim | exact ⟨rfl, by omega⟩
  rw [hn.1, List.getElem?_eq_none hn.2]
  simp
 repeat (rw [DC_p]; simp (maxSteps := 2000000) (disch := omega) only [kq, a0, go_sem, seval, reduceCtorEq])
 refine WStep.ev (fun _ _ e => by cases e) (fun _ _ e => by cases e) ?_
 try simp (maxSteps := 2000000) (disch := omega) only [l1, rp, go_sem, seval, reduceCtorEq]
 refine ⟨FrOk.app (u := []) (fun k hk => by simp at hk; simp [hk, l1]) (by simp), ?_⟩
 repeat (rw [DC_p]; simp (maxSteps := 2000000) (disch := omega) only [go_sem, seval, reduceCtorEq])
 refine WStep.ev (fun _ _ e => by cases e) (fun _ _ e => by cases e) ?_
 try simp (maxSteps := 2000000) (disch := omega) only [l1, go_sem, seval, reduceCtorEq]
 refine ⟨by have := FrOk.app (w := [G.length + 1]) (u := []) (H := G1 ++ [ABlk.cells (plR [] f.types.length)]) (l := [ABlk.cells [.hsl tb 0 f.types.length f.types.length 10, .hsl G.length 0 f.types.length f.types.length 1, .esl]]) (fun k hk => by simp at hk; simp [hk, l1]) (by simp); rw [kill_0, List.append_assoc] at this; exact this, ?_⟩
 repeat (rw [DC_p]; simp (maxSteps := 2000000) (disch := omega) only [l1, go_sem, seval, reduceCtorEq])
 obtain ⟨G3, hG3⟩ : ∃ G3, G1 ++ [ABlk.cells (plR [] f.types.length), ABlk.cells [.hsl tb 0 f.types.length f.types.length 10, .hsl G.length 0 f.types.length f.types.length 1, .esl]] = G3 := ⟨_, rfl⟩
 rw [hG3]
 have l3 : G3.length = G.length + 2 := by rw [← hG3]; simp [l1]
 have lo3 : ∀ b, b < G.length → b ≠ H.length → G3[b]? = G[b]? := fun b hb h1 => by rw [← hG3, List.getElem?_append_left (by omega), a1 b h1]
 have r0 : G3[H.length]? = some (ABlk.cells [sv f.name, wv f.key, usv f.uses, .hsl tb 0 f.types.length f.types.length 10, .hsl ob 0 f.objs.length f.objs.length 7]) := by rw [← hG3]; exact hold a0 _
 have rz : G3[H.length + 1]? = some (.cells zeA) := (lo3 _ (by omega) (by omega)).trans Gz
 have rob : G3[ob]? = some (.cells (obC f.objs)) := (lo3 _ (by omega) (by omega)).trans hco
 have rlo : ∀ b, b < H.length → G3[b]? = H[b]? := fun b hb => (lo3 _ (by omega) (by omega)).trans (GH b hb)
 have sls : ∀ b, Stc f.types tb fb pb b → b < G.length ∧ H.length + 2 ≤ b := fun b hb => by
  rcases hb with rfl | ⟨c, hc, rfl | rfl⟩
  ·omega
  ·have := lfb c hc; have := (hn4 c).1; omega
  ·have := lfb c hc; have := (hn4 c).2.1; omega
 have Q0 : RQ f.types tb fb pb (G.length + 1) G.length G3 (G.length + 1) [] := by
  refine ⟨(lo3 _ (by omega) (by omega)).trans hct, fun a ha => ?_, fun a ha => ?_, ?_, ?_, fun h => absurd rfl h, fun b hb => ?_, by omega⟩
  ·have := sls _ (.inr ⟨a, ha, .inl rfl⟩)
   exact (lo3 _ (by omega) (by omega)).trans (hcf a ha)
  ·have := sls _ (.inr ⟨a, ha, .inr rfl⟩)
   exact (lo3 _ (by omega) (by omega)).trans (hcp a ha)
  ·rw [← hG3, List.getElem?_append_right (by omega), show G.length + 1 - G1.length = 1 by omega]; rfl
  ·rw [← hG3, List.getElem?_append_right (by omega), show G.length - G1.length = 0 by omega]; rfl
  ·have := sls b hb; omega
 have hvs := rvisits hgd hs hvis fun a ha => by
  obtain ⟨x, hx, rfl⟩ := List.mem_map.1 ha
  exact ⟨(hF.ob x hx).2.1.1, (hF.ob x hx).2.1.2⟩
 obtain ⟨os, os0, osn, hos, hop⟩ := hvs.steps
 rw [List.length_map] at osn hos hop
 have hob64 := hF.os
 obtain ⟨S3, hS3⟩ : ∃ S3 : RG → List AV, ∀ g, S3 g = [.any, .ptr H.length 0, .ptr (H.length + 1) 0, iv 0, .any, .any, .ptr (G.length + 1) 0, iv g.i] ++ List.replicate 180 .any := ⟨_, fun _ => rfl⟩
 refine W.loopG (γ := RG) (fun g => f.objs.length - g.i) S3 (fun g => g.H) (OI f tb ob fb pb H G.length (ordF f) os) ⟨0, G3, G.length + 1⟩ (Wk.slots (by rw [hS3]; exact WkL.tail 8 _ rfl (by simp only [List.take_succ_cons, List.take_zero]; repeat' first | exact WkL.nil | refine WkL.cons (Wk1.rfl _) ?_ | refine WkL.cons Wk1.esl ?_ | refine WkL.cons (Wk1.gsl _ _ _) ?_ | refine WkL.cons (Wk1.any _) ?_))) ⟨Nat.zero_le _, by rw [← os0] at Q0; exact Q0, r0, rz, rob, rlo, by show G.length + 2 ≤ G3.length; omega, .inl rfl⟩ (fun g hg => ?_)
 obtain ⟨i, A, gq⟩ := g
 obtain ⟨hi, q, t1, tz, tob, tlo, tlen, tgb⟩ := hg
 simp only at hi q t1 tz tob tlo tlen tgb
 have cl7 : (obC (mOb (ordF f) f.objs i)).length = f.objs.length * 7 := by rw [obC_len, mOb_len]
 by_cases hi3 : i < f.objs.length
 ·have oa := ob_at (o := ordF f) hi3
  have oset := ob_set (o := ordF f) hi3
  have hi7 : i * 7 + 2 + 1 ≤ f.objs.length * 7 := by omega
  obtain ⟨x, hx⟩ : ∃ x, (f.objs.map Ob.typ).getD i 0 = x := ⟨_, rfl⟩
  have hxm : x ∈ f.objs.map Ob.typ := by
   rw [← hx, List.getD_eq_getElem?_getD, List.getElem?_eq_getElem (by rw [List.length_map]; exact hi3)]; exact List.getElem_mem _
  obtain ⟨y, hy, hyx⟩ := List.mem_map.1 hxm
  have hx2 := (hF.ob y hy).2.1
  rw [hyx] at hx2
  have hstep := hos i hi3
  rw [show (startL f).getD i 0 = x from hx] at hstep
  rw [hx] at oa oset
  simp (maxSteps := 2000000) (disch := omega) only [hS3, c24rl3, t1, tob, cl7, hi7, oa, go_sem, seval, reduceCtorEq]
  refine Cont.rel (hstep.1 _ _ _ _ _ _ _ q) ?_
  rintro v A2 ⟨g2, q2, f2, o2⟩
  have ll := f2.len
  have lob2 := (List.getElem?_eq_some_iff.1 tob).1
  have t1' := (f2.out _ (by omega) (by omega) (by omega) (by omega)).trans t1
  have tz' := (f2.out _ (by omega) (by omega) (by omega) (by omega)).trans tz
  have tob' := (f2.out _ lob2 (by omega) (by omega) (by omega)).trans tob
  simp (maxSteps := 2000000) (disch := omega) only [go_sem, seval, reduceCtorEq]
  refine W.dregSt 13 ob rfl follows (by decide +kernel) rfl (by rw [tob']; simp) ?_
  simp (maxSteps := 2000000) (disch := omega) only [t1', tob', cl7, hi7, oa, go_sem, seval, reduceCtorEq]
  refine PCont.mk (turned_c q2.hk q2.hq hx2.1 hx2.2 (hstep.2.mem _ List.mem_cons_self)) ?_
  simp (maxSteps := 2000000) (disch := omega) only [t1', go_sem, seval, reduceCtorEq]
  have hpe : pl (os (i + 1)) x = pl (ordF f) x := (pl_pre (hop (i + 1) hi3).pre (hstep.2.mem _ List.mem_cons_self)).symm
  obtain ⟨A3, hA3⟩ : ∃ A3, A2.set ob (ABlk.cells (obC (mOb (ordF f) f.objs (i + 1)))) = A3 := ⟨_, rfl⟩
  have hns : ¬ Stc f.types tb fb pb ob := fun hb => by
   rcases hb with hb | ⟨c, hc, hb | hb⟩
   ·exact hn3 hb.symm
   ·exact (hn4 c).2.2.2.1 hb.symm
   ·exact (hn4 c).2.2.2.2.2 hb.symm
  refine StW.st _ rfl ?_
  simp (maxSteps := 2000000) (disch := omega) only [tob', cl7, hi7, hpe, oset, hA3, go_sem, seval, reduceCtorEq]
  refine Nxt.mk ⟨i + 1, A3, g2⟩ (by show f.objs.length - (i + 1) < f.objs.length - i; omega) (Wk.slots (by rw [hS3]; exact WkL.tail 8 _ rfl (by simp only [List.take_succ_cons, List.take_zero]; repeat' first | exact WkL.nil | refine WkL.cons (Wk1.rfl _) ?_ | refine WkL.cons Wk1.esl ?_ | refine WkL.cons (Wk1.gsl _ _ _) ?_ | refine WkL.cons (Wk1.any _) ?_))) ⟨hi3, ?_, ?_, ?_, ?_, fun b hb => ?_, ?_, ?_⟩
  ·rw [← hA3]; exact q2.set hns (by omega) (by omega) (by omega) _
  ·show A3[H.length]? = _
   rw [← hA3, List.getElem?_set_ne (by omega)]; exact t1'
  ·show A3[H.length + 1]? = _
   rw [← hA3, List.getElem?_set_ne (by omega)]; exact tz'
  ·show A3[ob]? = _
   rw [← hA3, List.getElem?_set_self (by omega)]
  ·show A3[b]? = _
   rw [← hA3, List.getElem?_set_ne (by omega), f2.out b (by omega) (by omega) (by omega) (by omega)]; exact tlo b hb
  ·show G.length + 2 ≤ A3.length
   rw [← hA3, List.length_set]; omega
  ·show g2 = G.length + 1 ∨ G.length + 2 ≤ g2
   omega
 have hin : i = f.objs.length := by omega
 subst hin
 rw [osn] at q
 rw [mOb_n] at tob
 obtain ⟨ut, hut⟩ : ∃ ut, tcU f.types fb pb 7 = ut := ⟨_, rfl⟩
 have q1 := q.ht
 have qk := q.hk
 have eu : elemsA A 10 (.hsl tb 0 7 f.types.length 10) = some ((List.range 7).map fun a => tkR (f.types.getD a default) (fb a) (pb a)) := by
  have hl10 := tcR_len f.types fb pb
  simp only [elemsA, q1]
  rw [if_pos ⟨by omega, trivial⟩]
  congr 1
  refine List.map_congr_left fun a ha => ?_
  rw [Nat.zero_add]
  exact tcR_at (by have := List.mem_range.1 ha; omega)
 have du : datss ((List.range 7).map fun a => tkR (f.types.getD a default) (fb a) (pb a)) = none := by rfl
 have fu : ((List.range 7).map fun a => tkR (f.types.getD a default) (fb a) (pb a)).flatten = ut := hut
 have au : ut.all one = true := by rw [← hut]; rfl
 have h72 := h7.1
 obtain ⟨eL, heL⟩ : ∃ eL, (List.range 7).map (fun a => tkR (f.types.getD a default) (fb a) (pb a)) = eL := ⟨_, rfl⟩
 have lL : eL.length = 7 := by rw [← heL]; rfl
 rw [heL] at eu du fu
 have hord := hF.ord hvis
 have h256 := h7.2
 have lA1 := (List.getElem?_eq_some_iff.1 qk).1
 simp (maxSteps := 2000000) (disch := omega) only [hS3, c24rl3, t1, tob, cl7, eu, du, appH, fu, au, lL, go_sem, seval, reduceCtorEq]
 have hLS : LS f tb ob fb pb H G.length A.length := ⟨⟨by omega, ltb⟩, ⟨by omega, lob, fun e => hn3 e.symm⟩, fun a ha => ⟨by have := (hn4 a).1; omega, (lfb a ha).1, (hn4 a).2.2.1, (hn4 a).2.2.2.1⟩, fun a ha => ⟨by have := (hn4 a).2.1; omega, (lfb a ha).2, (hn4 a).2.2.2.2.1, (hn4 a).2.2.2.2.2⟩, hn6, hn7, hn5, by omega⟩
 have hX0 : ∀ a, XT f (ordF f) 0 a = f.types.getD a default := fun a => by rw [XT, if_neg (by simp)]
 have hI0 : LI f (ordF f) tb ob fb pb H G.length gq A.length ⟨0, A ++ [ABlk.cells ut], A.length⟩ := by
  refine ⟨Nat.zero_le _, hold qk _, hold q.hq _, hold q1 _, fun a ha => ?_, fun a ha => ?_, hold t1 _, hold tz _, hold tob _, fun b hb => ?_, ?_, Nat.le_refl _⟩
  ·show (A ++ [ABlk.cells ut])[fb a]? = some (.cells (fdC (XT f (ordF f) 0 a).fields))
   rw [hX0]; exact hold (q.hf a ha) _
  ·show (A ++ [ABlk.cells ut])[pb a]? = some (.cells (pmC (XT f (ordF f) 0 a).params))
   rw [hX0]; exact hold (q.hp a ha) _
  ·show (A ++ [ABlk.cells ut])[b]? = _
   rw [List.getElem?_append_left (by omega)]; exact tlo b hb
  ·show (A ++ [ABlk.cells ut])[A.length]? = some (.cells (tcV f (ordF f) fb pb 0))
   rw [List.getElem?_concat_length, tcV, hut]; simp
 refine W.loopG (γ := RH) (fun g => (ordF f).length - g.i) (S2R f (ordF f) H G.length) (fun g => g.H) (LI f (ordF f) tb ob fb pb H G.length gq A.length) ⟨0, A ++ [ABlk.cells ut], A.length⟩ (Wk.slots (by rw [S2R]; exact WkL.tail 11 _ rfl (by simp only [List.take_succ_cons, List.take_zero]; repeat' first | exact WkL.nil | refine WkL.cons (Wk1.rfl _) ?_ | refine WkL.cons Wk1.esl ?_ | refine WkL.cons (Wk1.gsl _ _ _) ?_ | refine WkL.cons (Wk1.any _) ?_))) hI0 (fun g hg => ?_)
 by_cases hlt : g.i < (ordF f).length
 ·exact ord_round hgd hs hord hLS _ _ g hg hlt
 obtain ⟨i, E, cur⟩ := g
 obtain ⟨hi, ek, eq, et, ef, ep, e1, ez, eob, elo, etc, ecu⟩ := hg
 simp only at hi ek eq et ef ep e1 ez eob elo etc ecu hlt
 have hin : i = (ordF f).length := by omega
 subst hin
 rw [tcV_n hgd] at etc
 have hcn : ((ordF f).take (ordF f).length).countP (own f.name f.types) = ownN f (ordF f) := by rw [List.take_length]
 have hVc : (ordF f = [] ∧ ordA gq (ordF f) = .esl) ∨ ∃ es : List (List Dat), ordA gq (ordF f) = .gsl gq 1 es ∧ es.length = (ordF f).length := by
  cases ordF f with
  | nil => exact .inl ⟨rfl, rfl⟩
  | cons b l => exact .inr ⟨_, rfl, by simp⟩
 have ezs : ∀ k : ABlk, (E.set (H.length + 1) k)[H.length + 1]? = some k := fun k => List.getElem?_set_self (List.getElem?_eq_some_iff.1 ez).1
 have elen := (List.getElem?_eq_some_iff.1 ek).1
 have pw : ∀ k : ABlk, H <+: E.set (H.length + 1) k := fun k => pre_out fun c hc => by
  rw [List.getElem?_set_ne (by omega)]; exact elo c hc
 have hol := nodup_len hord.nd hord.rng
 have hown := List.countP_le_length (p := own f.name f.types) (l := ordF f)
 by_cases hc : 64 < ownN f (ordF f)
 ·have hV2 : trimV f = (zeF, 160) := by rw [trimV, if_neg fun k => by have := k.2; omega]
  have fin : Ret [RC.c 2 5 true, RC.t 3] H.length (TrR f H) (some (.tup [.agg zeA, iv 160])) (E.set (H.length + 1) (ABlk.cells zeA)) := by
   refine Ret.pre (.tup [zeF.av, iv 160]) H (pw _) (Nat.le_refl _) hcl ze_wk (by simp [refs, refs.refsL, Fc.cs, zeF]) ?_
   rw [TrR, hV2]; exact ⟨rfl, rfl⟩
  rcases hVc with ⟨h0, hV⟩ | ⟨es, hV, les⟩
  ·have hc' : 64 < (ordF f).countP (own f.name f.types) := hc
   rw [h0] at hc'; simp at hc'
  ·rw [hV] at ek
   simp (maxSteps := 2000000) (disch := omega) only [S2R, c24rl2, ek, les, hcn, hc, ez, ezs, go_sem, seval, reduceCtorEq]
   exact fin
 ·have hV2 : trimV f = (trimF f (ordF f), 0) := by rw [trimV, if_pos ⟨hF, by omega⟩]
  obtain ⟨E1, hE1⟩ : ∃ E1, E.set H.length (ABlk.cells [sv f.name, wv f.key, usv f.uses, .hsl cur 0 (7 + (ordF f).length) (7 + (ordF f).length) 10, .hsl ob 0 f.objs.length f.objs.length 7]) = E1 := ⟨_, rfl⟩
  have lE1 : E1.length = E.length := by rw [← hE1, List.length_set]
  have g1 : E1[H.length]? = some (ABlk.cells [sv f.name, wv f.key, usv f.uses, .hsl cur 0 (7 + (ordF f).length) (7 + (ordF f).length) 10, .hsl ob 0 f.objs.length f.objs.length 7]) := by rw [← hE1, List.getElem?_set_self (by omega)]
  have gz : E1[H.length + 1]? = some (.cells zeA) := by rw [← hE1, List.getElem?_set_ne (by omega)]; exact ez
  have gs : ∀ k : ABlk, (E1.set (H.length + 1) k)[H.length + 1]? = some k := fun k => List.getElem?_set_self (by omega)
  have keep : ∀ (k : ABlk) {b : Nat} {c : ABlk}, H.length + 2 ≤ b → E[b]? = some c → (E1.set (H.length + 1) k)[b]? = some c := fun k {b} {c} hb h => by
   rw [List.getElem?_set_ne (by omega), ← hE1, List.getElem?_set_ne (by omega)]; exact h
  have lnT := newT_len f.name f.types (ordF f)
  have fin : ∀ k : ABlk, Ret [RC.c 2 5 true, RC.t 3] H.length (TrR f H) (some (.tup [.agg [sv f.name, wv f.key, usv f.uses, .hsl cur 0 (7 + (ordF f).length) (7 + (ordF f).length) 10, .hsl ob 0 f.objs.length f.objs.length 7], iv 0])) (E1.set (H.length + 1) k) := fun k => by
   obtain ⟨lx, hlx⟩ : H <+: E1.set (H.length + 1) k := pre_out fun c hc => by
    rw [List.getElem?_set_ne (by omega), ← hE1, List.getElem?_set_ne (by omega)]; exact elo c hc
   have hz1 : Fz (fun b => H.length ≤ b) (E1.set (H.length + 1) k) (.hsl cur 0 (7 + (ordF f).length) (7 + (ordF f).length) 10) (.sl ((newT f.name f.types (ordF f)).map Ty.c)) := by
    rw [← lnT]
    refine tab_fz (by show H.length ≤ cur; omega) (keep _ (by omega) etc) (fun j hj => ?_) (fun j hj => ?_)
    ·obtain ⟨a, ha, h1, h2, -⟩ := XT_n hgd hord hj
     rw [h1, h2]
     have := hLS.nf a ha
     exact ⟨by show H.length ≤ fb a; omega, keep _ (by omega) (ef a ha)⟩
    ·obtain ⟨a, ha, h1, -, h2⟩ := XT_n hgd hord hj
     rw [h1, h2]
     have := hLS.np a ha
     exact ⟨by show H.length ≤ pb a; omega, keep _ (by omega) (ep a ha)⟩
   have hz2 : Fz (fun b => H.length ≤ b) (E1.set (H.length + 1) k) (.hsl ob 0 f.objs.length f.objs.length 7) (.sl ((f.objs.map (trimO (ordF f))).map Ob.c)) := by
    have := obs_fz (F := fun b => H.length ≤ b) (H := E1.set (H.length + 1) k) (l := f.objs.map (trimO (ordF f))) (ob := ob) (by show H.length ≤ ob; omega) (keep _ (by omega) eob)
    rwa [List.length_map] at this
   rw [← hlx] at hz1 hz2 ⊢
   refine Ret.freeze (.tup [(trimF f (ordF f)).av, iv 0]) H (Nat.le_refl _) hcl (.tupL (.cons (.aggL (.cons (.keep _) (.cons (.keep _) (.cons (.keep _) (.cons (.d hz1) (.cons (.d hz2) .nil)))))) (.cons (.keep _) .nil))) (by simp [refs, refs.refsL, Fc.cs]) ?_
   rw [TrR, hV2]; exact ⟨rfl, rfl⟩
  rcases hVc with ⟨h0, hV⟩ | ⟨es, hV, les⟩
  ·rw [hV] at ek
   simp (maxSteps := 2000000) (disch := omega) only [S2R, c24rl2, ek, hcn, hc, e1, hE1, g1, gz, gs, go_sem, seval, reduceCtorEq]
   exact fin _
  ·rw [hV] at ek
   simp (maxSteps := 2000000) (disch := omega) only [S2R, c24rl2, ek, les, hcn, hc, e1, hE1, g1, gz, gs, go_sem, seval, reduceCtorEq]
   exact fin _
end Go.Proofs.Ythifjndenhjobaa
