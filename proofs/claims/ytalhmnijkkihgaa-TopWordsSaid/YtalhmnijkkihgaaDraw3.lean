/-
  One's own library, part 15: a region that draws its order and makes a map's entry while it looks at another one (m[k]++).
-/
import Derived.Test.YtalhmnijkkihgaaAuto3
namespace Go.Proofs.Ytalhmnijkkihgaa
set_option linter.unusedSectionVars false
set_option linter.unusedSimpArgs false
set_option linter.unusedVariables false
open Go.RowKit

section
variable {P : Program}
/-- What must hold where the pure operations end. -/
structure MEnd (b d1 d2 d3 d4 m k : Nat) (x y : AV) (c : Nat) (kv : Value) (H H' : List ABlk) (K : List AV → List ABlk → Prop) (s1 : List AV) : Prop where
  m : get s1 (.t m) = .mp b
  k : keyOf (get s1 (.t k)) = some kv
  a1 : get (setO s1 (some d1) x) (.t d1) = x
  a3 : get (setO (setO (setO s1 (some d1) x) (some d2) y) (some d3) (.tup [x, .d (.v (.int .i64 c))])) (.t d3) = .tup [x, .d (.v (.int .i64 c))]
  a4 : get (setO (setO (setO (setO s1 (some d1) x) (some d2) y) (some d3) (.tup [x, .d (.v (.int .i64 c))])) (some d4) (.d (.v (.int .i64 c)))) (.t d4) = .d (.v (.int .i64 c))
  a2 : get (setO (setO (setO (setO s1 (some d1) x) (some d2) y) (some d3) (.tup [x, .d (.v (.int .i64 c))])) (some d4) (.d (.v (.int .i64 c)))) (.t d2) = y
  q : K (setO (setO (setO (setO s1 (some d1) x) (some d2) y) (some d3) (.tup [x, .d (.v (.int .i64 c))])) (some d4) (.d (.v (.int .i64 c)))) H'

theorem get_setO_ne {s : List AV} {d t : Nat} {v : AV} (h : t ≠ d) : get (setO s (some d) v) (.t t) = get s (.t t) := by
  simp only [get, setO, List.getD_eq_getElem?_getD]
  rw [List.getElem?_set_ne (Ne.symm h)]
theorem mapGet_app {es : List (Value × AV × Nat)} {kv : Value} {z : AV} {c : Nat} (h : mapGet es kv = none) (hk : keq kv kv = true) : mapGet (es ++ [(kv, z, c)]) kv = some (z, c) := by
  induction es with
  | nil => simp [mapGet, hk]
  | cons e r ih =>
    simp only [mapGet, List.cons_append] at h ⊢
    split at h
    · cases h
    · rename_i hne
      rw [if_neg hne]; exact ih h

theorem W.dregM {hint : Nat → Option Md} {nb : Nat} {pr : List (List Nat)} {l : List Ins} {s : List AV} {H : List ABlk} {Q : APost} (n b d1 d2 d3 d4 m k : Nat) (kt : KT) (z x y w : AV) (ck ck1 c : Nat) (kv : Value) (es es1 es2 : List (Value × AV × Nat))
    (hl : l.drop n = [⟨some d1, .lk kt z (.t m) (.t k) false, none⟩, ⟨some d2, .bin .add (.t d1) (.c w), none⟩, ⟨some d3, .me kt z (.t m) (.t k), none⟩, ⟨some d4, .ext (.t d3) 1, none⟩, ⟨none, .mes (.t m) (.t d4) (.t d2), none⟩])
    (hm : P.follows .mixedOrders = true) (hok : drawOk pr l = true)
    (hU : (List.range l.length).map (killsOf pr (List.replicate n [] ++ [[], [], [b], [], [b]]) l.length) = List.replicate n [] ++ [[b], [b], [], [], []]) (hanc : (ancOf pr (n + 4)).contains n = true)
    (hd : m ≠ d1 ∧ m ≠ d2 ∧ m ≠ d3 ∧ m ≠ d4 ∧ k ≠ d1 ∧ k ≠ d2 ∧ k ≠ d3 ∧ k ≠ d4)
    (hb : H[b]? = some (.map kt ck es)) (hf : keyFits kt kv = true) (hkk : keq kv kv = true)
    (hmg : (mapGet es kv = some (x, c) ∧ ck1 = ck ∧ es1 = es) ∨ (mapGet es kv = none ∧ x = z ∧ c = ck ∧ ck1 = ck + 1 ∧ es1 = es ++ [(kv, z, ck)]))
    (hbin : binA .add x w = some y) (hst : mapSt es1 c y = some es2) (hy : shown y = true)
    (hc : PChain P (l.take n) s H fun s1 H1 => H1 = H ∧ MEnd b d1 d2 d3 d4 m k x y c kv H (H.set b (.map kt ck1 es2)) (Q .normal) s1) : Go.Proofs.Ytalhmnijkkihgaa.W P hint nb (.dreg pr l) s H Q := by
  obtain ⟨m1, m2, m3, m4, k1, k2, k3, k4⟩ := hd
  have hbl : b < H.length := (List.getElem?_eq_some_iff.1 hb).1
  have hbd : H[b]? ≠ some .dead := by rw [hb]; exact fun e => by cases e
  have hlen : l.length = n + 5 := by
    have := congrArg List.length hl
    simp at this
    omega
  have hlt : (l.take n).length = n := by simp; omega
  have hmg1 : mapGet es kv = some (x, c) ∨ mapGet es kv = none ∧ x = z := hmg.elim (fun h => .inl h.1) fun h => .inr ⟨h.1, h.2.1⟩
  have hmg2 : mapGet es1 kv = some (x, c) := by
    rcases hmg with ⟨h1, _, rfl⟩ | ⟨h1, rfl, rfl, _, rfl⟩
    · exact h1
    · exact mapGet_app h1 hkk
  let ws : List (List Nat) := List.replicate n [] ++ [[], [], [b], [], [b]]
  let U : List (List Nat) := List.replicate n [] ++ [[b], [b], [], [], []]
  have hws : ∀ q, q < n → ws.getD q [] = [] := fun q hq => by have := getD_rep hq [[], [], [b], [], [b]]; rwa [Nat.zero_add] at this
  have gd : ∀ (w : List (List Nat)) (i : Nat), (List.replicate n [] ++ w).getD (n + i) [] = w.getD i [] := fun w i => by
    rw [List.getD_eq_getElem?_getD, List.getElem?_append_right (by simp), List.getD_eq_getElem?_getD]; simp
  let K : List AV → List ABlk → Prop := fun s' H' => (get s' (.t m) = .mp b ∧ keyOf (get s' (.t k)) = some kv) ∧ Q .normal s' H'
  let r : List Ins := [⟨some d2, .bin .add (.t d1) (.c w), none⟩, ⟨some d3, .me kt z (.t m) (.t k), none⟩, ⟨some d4, .ext (.t d3) 1, none⟩, ⟨none, .mes (.t m) (.t d4) (.t d2), none⟩]
  have hch : DChain P ws U H 0 (l.take n ++ ⟨some d1, .mv (.c x), none⟩ :: r) s H K := by
    refine PChain.app0 n hlt (PChain.mono hc fun s1 H1 h => ?_)
    obtain ⟨rfl, h⟩ := h
    have e1 : get (setO (setO s1 (some d1) x) (some d2) y) (.t m) = .mp b := by rw [get_setO_ne m2, get_setO_ne m1, h.m]
    have e2 : keyOf (get (setO (setO s1 (some d1) x) (some d2) y) (.t k)) = some kv := by rw [get_setO_ne k2, get_setO_ne k1, h.k]
    have e3 : get (setO (setO (setO (setO s1 (some d1) x) (some d2) y) (some d3) (.tup [x, .d (.v (.int .i64 c))])) (some d4) (.d (.v (.int .i64 c)))) (.t m) = .mp b := by rw [get_setO_ne m4, get_setO_ne m3, e1]
    have e4 : keyOf (get (setO (setO (setO (setO s1 (some d1) x) (some d2) y) (some d3) (.tup [x, .d (.v (.int .i64 c))])) (some d4) (.d (.v (.int .i64 c)))) (.t k)) = some kv := by rw [get_setO_ne k4, get_setO_ne k3, e2]
    refine DChain.pure x (by rfl) (gd _ 0) ?_
    refine DChain.pure y ?_ (gd _ 1) ?_
    · simp only [StepOk, wanted, evK]
      rw [h.a1]
      simp only [get, hbin]
    refine ⟨.tup [x, .d (.v (.int .i64 c))], H1.set b (.map kt ck1 es1), ?_, ?_, by simp, ?_, ?_⟩
    · rw [show List.getD (List.replicate n ([] : List Nat) ++ [[b], [b], [], [], []]) (n + 1 + 1) ([] : List Nat) = ([] : List Nat) from gd _ 2]
      simp only [StepOk, wanted, evK, e1, e2, hf, hb, kill, List.foldl_nil, if_true]
      rcases hmg with ⟨q1, rfl, rfl⟩ | ⟨q1, rfl, rfl, rfl, rfl⟩
      · simp only [q1, if_true]
        rw [show H1.set b (.map kt ck1 es1) = H1 by
          refine List.ext_getElem? fun i => ?_
          by_cases e : b = i
          · subst e; rw [List.getElem?_set_self hbl, hb]
          · rw [List.getElem?_set_ne e]]
      · simp only [q1, if_true]
    · rw [show List.getD (List.replicate n ([] : List Nat) ++ [[], [], [b], [], [b]]) (n + 1 + 1) ([] : List Nat) = ([b] : List Nat) from gd _ 2]
      intro c' hc'
      exact List.getElem?_set_ne fun e => hc' (by rw [e]; exact List.mem_singleton.2 rfl)
    · rw [show List.getD (List.replicate n ([] : List Nat) ++ [[], [], [b], [], [b]]) (n + 1 + 1) ([] : List Nat) = ([b] : List Nat) from gd _ 2, show List.getD (List.replicate n ([] : List Nat) ++ [[b], [b], [], [], []]) (n + 1 + 1) ([] : List Nat) = ([] : List Nat) from gd _ 2]
      intro b' hb'
      rw [List.mem_singleton.1 hb']
      exact ⟨List.not_mem_nil, hbd⟩
    refine DChain.pure (.d (.v (.int .i64 c))) ?_ (gd _ 3) ?_
    · rw [show List.getD (List.replicate n ([] : List Nat) ++ [[b], [b], [], [], []]) (n + 1 + 1 + 1) ([] : List Nat) = ([] : List Nat) from gd _ 3]
      simp only [StepOk, wanted, evK]
      rw [h.a3]
      rfl
    refine ⟨.tup [], H1.set b (.map kt ck1 es2), ?_, ?_, by simp, ?_, ?_⟩
    · rw [show List.getD (List.replicate n ([] : List Nat) ++ [[b], [b], [], [], []]) (n + 1 + 1 + 1 + 1) ([] : List Nat) = ([] : List Nat) from gd _ 4]
      simp only [StepOk, wanted, evK, e3, h.a4, h.a2, kill, List.foldl_nil, List.getElem?_set_self hbl, hy, if_true, hst, List.set_set]
    · rw [show List.getD (List.replicate n ([] : List Nat) ++ [[], [], [b], [], [b]]) (n + 1 + 1 + 1 + 1) ([] : List Nat) = ([b] : List Nat) from gd _ 4]
      intro c' hc'
      have hne : b ≠ c' := fun e => hc' (by rw [e]; exact List.mem_singleton.2 rfl)
      rw [List.getElem?_set_ne hne, List.getElem?_set_ne hne]
    · rw [show List.getD (List.replicate n ([] : List Nat) ++ [[], [], [b], [], [b]]) (n + 1 + 1 + 1 + 1) ([] : List Nat) = ([b] : List Nat) from gd _ 4, show List.getD (List.replicate n ([] : List Nat) ++ [[b], [b], [], [], []]) (n + 1 + 1 + 1 + 1) ([] : List Nat) = ([] : List Nat) from gd _ 4]
      intro b' hb'
      rw [List.mem_singleton.1 hb']
      exact ⟨List.not_mem_nil, hbd⟩
    exact ⟨⟨e3, e4⟩, h.q⟩
  obtain ⟨st, Hs, v, s1, s2, s3, s4⟩ := hch.seq
  have hlen' : (l.take n ++ ⟨some d1, .mv (.c x), none⟩ :: r).length = n + 5 := by rw [List.length_append, hlt]; rfl
  simp only [Nat.zero_add] at s3 s4
  rw [hlen'] at s4
  have hat : ∀ q, q ≠ n → (l.take n ++ ⟨some d1, .mv (.c x), none⟩ :: r)[q]? = l[q]? := fun q hq => by
    conv => rhs; rw [← List.take_append_drop n l, hl]
    rcases Nat.lt_or_ge q n with h | h
    · rw [List.getElem?_append_left (by omega), List.getElem?_append_left (by omega)]
    · rw [List.getElem?_append_right (by omega), List.getElem?_append_right (by omega), hlt]
      obtain ⟨p, hp⟩ : ∃ p, q - n = p + 1 := ⟨q - n - 1, by omega⟩
      rw [hp]; rfl
  have hat0 : (l.take n ++ ⟨some d1, .mv (.c x), none⟩ :: r)[n]? = some ⟨some d1, .mv (.c x), none⟩ := by
    rw [List.getElem?_append_right (by omega), hlt, Nat.sub_self]; rfl
  have hatl : ∀ i, l[n + i]? = (l.drop n)[i]? := fun i => by rw [List.getElem?_drop]
  have hln : l[n]? = some ⟨some d1, .lk kt z (.t m) (.t k) false, none⟩ := by have := hatl 0; rw [hl] at this; exact this
  have hall : ∀ q, q < l.length → ∃ i, (l.take n ++ ⟨some d1, .mv (.c x), none⟩ :: r)[q]? = some i := fun q hq => ⟨_, List.getElem?_eq_getElem (by omega)⟩
  have X : Lex P pr ws U l s H st Hs v := by
    refine ⟨s1, s2, fun q i hq => ?_, fun q b' hq hb' => ?_, fun q hq => ?_, fun q hq => ?_, hok, hU⟩
    · by_cases e : q = n
      · subst e
        rw [hln] at hq; cases hq
        exact (s3 _ _ hat0).2.1
      · exact (s3 q i (by rw [hat q e]; exact hq)).2.1
    · obtain ⟨i, hi⟩ := hall q hq
      exact (s3 q i hi).2.2.1 b' hb'
    · obtain ⟨i, hi⟩ := hall q hq
      exact (s3 q i hi).2.2.2.1
    · obtain ⟨i, hi⟩ := hall q hq
      exact (s3 q i hi).2.2.2.2
  -- the heap until the entry is made
  have hsame : ∀ q, q < l.length → ws.getD q [] = [] → Hs (q + 1) = Hs q := fun q hq hw => List.ext_getElem? fun i => X.fr q i hq (by rw [hw]; exact List.not_mem_nil)
  have hHn : ∀ q, q ≤ n → Hs q = H := by
    intro q
    induction q with
    | zero => intro _; exact s2
    | succ q ih => intro hq; rw [hsame q (by omega) (hws q (by omega)), ih (by omega)]
  have hH1 : Hs (n + 1) = H := by rw [hsame n (by omega) (gd _ 0), hHn n (Nat.le_refl _)]
  have hH2 : Hs (n + 1 + 1) = H := by rw [hsame (n + 1) (by omega) (gd _ 1), hH1]
  have ln : ∀ i j, r[i]? = some j → l[n + (i + 1)]? = some j := fun i j h => by rw [hatl, hl]; exact h
  have st1 : st (n + 1) = setO (st n) (some d1) (v n) := X.stn n _ hln
  have st2 : st (n + 1 + 1) = setO (st (n + 1)) (some d2) (v (n + 1)) := X.stn (n + 1) _ (ln 0 _ rfl)
  have st3 : st (n + 1 + 1 + 1) = setO (st (n + 1 + 1)) (some d3) (v (n + 1 + 1)) := X.stn (n + 1 + 1) _ (ln 1 _ rfl)
  have st4 : st (n + 1 + 1 + 1 + 1) = setO (st (n + 1 + 1 + 1)) (some d4) (v (n + 1 + 1 + 1)) := X.stn (n + 1 + 1 + 1) _ (ln 2 _ rfl)
  have st5 : st (n + 5) = st (n + 1 + 1 + 1 + 1) := X.stn (n + 1 + 1 + 1 + 1) _ (ln 3 _ rfl)
  obtain ⟨⟨gm, gk⟩, hq⟩ := s4
  rw [st5, st4, get_setO_ne m4, st3, get_setO_ne m3] at gm
  rw [st5, st4, get_setO_ne k4, st3, get_setO_ne k3] at gk
  have gm0 : get (st n) (.t m) = .mp b := by rw [st2, get_setO_ne m2, st1, get_setO_ne m1] at gm; exact gm
  have gk0 : keyOf (get (st n) (.t k)) = some kv := by rw [st2, get_setO_ne k2, st1, get_setO_ne k1] at gk; exact gk
  have hv : v n = x := by
    have := (s3 _ _ hat0).1
    simp only [StepOk, wanted, evK, get] at this
    exact (Prod.mk.inj (Option.some.inj this)).1.symm
  have hH3 : (Hs (n + 1 + 1 + 1))[b]? = some (.map kt ck1 es1) ∧ (Hs (n + 1 + 1 + 1)).length = H.length := by
    have := (s3 (n + 2) _ (by rw [hat _ (by omega)]; exact ln 1 _ rfl)).1
    rw [show U.getD (n + 2) [] = [] from gd _ 2] at this
    simp only [StepOk, wanted, evK] at this
    rw [show st (n + 2) = st (n + 1 + 1) from rfl, show Hs (n + 2) = H from hH2, gm, gk] at this
    simp only [hf, kill, List.foldl_nil, hb, if_true] at this
    rcases hmg with ⟨q1, rfl, rfl⟩ | ⟨q1, rfl, rfl, rfl, rfl⟩
    · rw [q1] at this
      have := (Prod.mk.inj (Option.some.inj this)).2
      rw [show Hs (n + 1 + 1 + 1) = Hs (n + 2 + 1) from rfl, ← this]
      exact ⟨hb, rfl⟩
    · rw [q1] at this
      have := (Prod.mk.inj (Option.some.inj this)).2
      rw [show Hs (n + 1 + 1 + 1) = Hs (n + 2 + 1) from rfl, ← this]
      exact ⟨List.getElem?_set_self hbl, by simp⟩
  refine .dregS hm X (fun L j i hL hdc hj hnj hpj => ?_) (by rw [hlen]; exact hq)
  have hjl : j < l.length := (List.getElem?_eq_some_iff.1 hj).1
  by_cases e : j = n
  · subst e
    rw [hln] at hj; cases hj
    refine X.soft hL hdc hjl hnj hpj b (.map kt ck1 es1) hbl (gd _ 0) (gd _ 0) (by rw [hH1, hHn _ (Nat.le_refl _)]) (fun q hq hbq => by rw [hws q hq] at hbq; exact absurd hbq List.not_mem_nil) (fun q hq hql hbq hna => ?_) ?_ ?_
    · have : q = j + 1 ∨ q = j + 2 ∨ q = j + 3 ∨ q = j + 4 := by omega
      rcases this with rfl | rfl | rfl | rfl
      · rw [show ws.getD (j + 1) [] = [] from gd _ 1] at hbq; exact absurd hbq List.not_mem_nil
      · exact hH3
      · rw [show ws.getD (j + 3) [] = [] from gd _ 3] at hbq; exact absurd hbq List.not_mem_nil
      · exact absurd (List.contains_iff_mem.1 hanc) hna
    · simp only [StepOk, wanted, evK, gm0, gk0, hf, if_true, mapOf, hHn j (Nat.le_refl _), hb]
      rcases hmg1 with q | ⟨q, q'⟩
      · simp [q, hv]
      · simp [q, hv, q']
    · simp only [StepOk, wanted, evK, gm0, gk0, hf, if_true, mapOf, hHn j (Nat.le_refl _), List.getElem?_set_self hbl, hmg2, hv]
      simp
  · exact ⟨_, _, X.hard hL hdc hjl hnj hpj (s3 j i (by rw [hat j e]; exact hj)).1⟩

/-- A call of a function's value, if it is wanted. -/
def kV (P : Program) (f : Opd) (args : List Opd) (d : Option Nat) (r : List Ins) (Kk : List AV → List ABlk → Prop) (s : List AV) (H : List ABlk) : Prop := wpIns P (⟨d, .callv f args, none⟩ :: r) s H Kk
@[go_sem] theorem kV_a {d : Option Nat} {f : Opd} {args : List Opd} {r : List Ins} {s : List AV} {H : List ABlk} {Kk : List AV → List ABlk → Prop} : kV P f args d r Kk s H = wpIns P (⟨d, .callv f args, none⟩ :: r) s H Kk := propext ⟨fun h => h, fun h => h⟩
@[go_sem] theorem wpIns_callvg {d : Option Nat} {f : Opd} {args : List Opd} {g : Nat × Bool} {r : List Ins} {s : List AV} {H : List ABlk} {Kk : List AV → List ABlk → Prop} :
    wpIns P (⟨d, .callv f args, some g⟩ :: r) s H Kk = GBr (s.getD g.1 .any) g.2 (Lz (kV P f args d r Kk) s H) (Lz (kU P d r Kk) s H) := by
  obtain ⟨g, b⟩ := g
  rw [wpIns_callv, show wanted s (some (g, b)) = (match s.getD g .any with | .d (.v (.bool t)) => some (t == b) | .tup [] => some false | _ => none) from rfl]
  unfold GBr
  simp only
  generalize s.getD g .any = X
  match X, b with
  | .d (.v (.bool true)), true => exact Br_true.symm
  | .d (.v (.bool false)), true => exact Br_false.symm
  | .d (.v (.bool true)), false => exact Br_true.symm
  | .d (.v (.bool false)), false => exact Br_false.symm
  | .tup [], _ => rfl
  | .tup (_ :: _), _ => rfl
  | .any, _ => rfl
  | .ub, _ => rfl
  | .d (.sl _), _ => rfl
  | .d (.v (.int _ _)), _ => rfl
  | .d (.v (.float _ _)), _ => rfl
  | .d (.v (.complex _ _ _)), _ => rfl
  | .d (.v (.string _)), _ => rfl
  | .d (.v (.pointer _)), _ => rfl
  | .d (.v (.slice _ _ _)), _ => rfl
  | .d (.v (.map _)), _ => rfl
  | .d (.v (.chan _)), _ => rfl
  | .d (.v (.func _ _ _)), _ => rfl
  | .d (.v .nilFunc), _ => rfl
  | .d (.v (.iface _ _)), _ => rfl
  | .d (.v .nilIface), _ => rfl
  | .d (.v (.agg _)), _ => rfl
  | .d (.v (.tuple _)), _ => rfl
  | .agg _, _ => rfl
  | .nilp, _ => rfl
  | .mnil, _ => rfl
  | .ptr _ _, _ => rfl
  | .ip _, _ => rfl
  | .esl, _ => rfl
  | .gsl _ _ _, _ => rfl
  | .hsl _ _ _ _ _, _ => rfl
  | .mp _, _ => rfl
  | .fn _ _, _ => rfl
end
end Go.Proofs.Ytalhmnijkkihgaa
