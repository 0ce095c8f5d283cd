/-
  One's own library, part 8: regions that draw their order.
-/
import Derived.Test.YtalhmnijkkihgaaWalk
import Derived.Orders
namespace Go.Proofs.Ytalhmnijkkihgaa
set_option linter.unusedVariables false
set_option linter.unusedSimpArgs false
set_option linter.unusedSectionVars false
open Go.RowKit

/-! ### which operations come before which -/
def anc (pr : List (List Nat)) : List (List Nat) := pr.foldl (fun acc p => acc ++ [(p ++ p.flatMap fun i => acc.getD i []).eraseDups]) []
inductive Reach (pr : List (List Nat)) : Nat → Nat → Prop
  | one {j k : Nat} : k ∈ pr.getD j [] → Reach pr j k
  | more {j i k : Nat} : i ∈ pr.getD j [] → Reach pr i k → Reach pr j k
theorem anc_reach (pr : List (List Nat)) : ∀ j k, k ∈ (anc pr).getD j [] → Reach pr j k := by
  have go : ∀ (rest done : List (List Nat)) (acc : List (List Nat)), pr = done ++ rest → acc.length = done.length → (∀ j k, k ∈ acc.getD j [] → Reach pr j k) →
      ∀ j k, k ∈ (rest.foldl (fun acc p => acc ++ [(p ++ p.flatMap fun i => acc.getD i []).eraseDups]) acc).getD j [] → Reach pr j k := by
    intro rest
    induction rest with
    | nil => intro done acc _ _ h; exact h
    | cons p rest ih =>
      intro done acc hp hl h
      refine ih (done ++ [p]) _ (by simp [hp]) (by simp [hl]) fun j k hk => ?_
      have hpj : pr.getD acc.length [] = p := by rw [hp, hl]; simp
      rcases Nat.lt_trichotomy j acc.length with hj | hj | hj
      · refine h j k ?_
        simpa [List.getElem?_append, hj] using hk
      · subst hj
        simp only [List.getD_eq_getElem?_getD, List.getElem?_concat_length, Option.getD_some, List.mem_eraseDups, List.mem_append, List.mem_flatMap] at hk
        rcases hk with hk | ⟨i, hi, hk⟩
        · exact .one (by rw [hpj]; exact hk)
        · exact .more (by rw [hpj]; exact hi) (h i k (by simpa using hk))
      · rw [List.getD_eq_getElem?_getD, List.getElem?_eq_none (by simp; omega)] at hk
        simp at hk
  exact go pr [] [] rfl rfl (fun j k h => by simp at h)

def ancOf (pr : List (List Nat)) (j : Nat) : List Nat := (anc pr).getD j []
theorem reach_closed {pr : List (List Nat)} {L : Nat → Prop} (hL : ∀ i, L i → ∀ k ∈ pr.getD i [], L k) {j k : Nat} (h : Reach pr j k) (hj : ∀ i ∈ pr.getD j [], L i) : L k := by
  induction h with
  | one h => exact hj _ h
  | more h _ ih => exact ih (hL _ (hj _ h))

/-! ### which slots an operation looks at -/
def Opd.sl : Opd → List Nat
  | .t n => [n]
  | .c _ => []
def Opd.slO : Option Opd → List Nat
  | some x => x.sl
  | none => []
def K.sl : K → List Nat
  | .mv x | .mvg _ _ x | .bx x | .ld x _ _ | .nc x | .un _ x | .cvi _ x | .fa x _ | .fld x _ _ _ | .slz x | .ext x _ | .len _ x | .s2b _ _ x | .b2s x | .isn _ _ x => x.sl
  | .pick c a b => c.sl ++ a.sl ++ b.sl
  | .al _ | .mkm _ => []
  | .bd _ ps => ps.flatMap fun p => p.2.2.sl
  | .bs _ _ _ ps | .mn ps | .mx ps | .mkf _ ps | .call _ ps => ps.flatMap Opd.sl
  | .callv g ps => g.sl ++ ps.flatMap Opd.sl
  | .st x v _ | .bin _ x v | .ia x v _ | .iar x v _ _ | .ix x v | .ixv x v _ | .app _ _ _ _ x v | .cpy _ x v | .lk _ _ x v _ | .me _ _ x v | .del _ x v | .eqs _ x v | .eqp _ x v | .ixb _ x v | .eqg _ _ x v => x.sl ++ v.sl
  | .sli _ x lo hi _ => x.sl ++ Opd.slO lo ++ Opd.slO hi
  | .sla x lo hi _ _ => x.sl ++ Opd.slO lo ++ Opd.slO hi
  | .mks _ _ _ _ _ n c => n.sl ++ c.sl
  | .mu _ m k v | .mes m k v => m.sl ++ k.sl ++ v.sl
def Ins.sl (i : Ins) : List Nat := i.k.sl ++ (match i.g with | some (g, _) => [g] | none => [])

def mask (rd : List Nat) (s : List AV) : List AV := s.mapIdx fun i x => if rd.contains i then x else .any
theorem mask_length (rd : List Nat) (s : List AV) : (mask rd s).length = s.length := by simp [mask]
theorem mask_get {rd : List Nat} {s : List AV} {t : Nat} (h : t ∈ rd) : (mask rd s).getD t .any = s.getD t .any := by
  simp only [List.getD_eq_getElem?_getD, mask, List.getElem?_mapIdx]
  cases s[t]? with
  | none => rfl
  | some x => simp [h]
theorem get_mask {rd : List Nat} {s : List AV} {x : Opd} (h : ∀ t ∈ x.sl, t ∈ rd) : get (mask rd s) x = get s x := by
  cases x with
  | t n => exact mask_get (h n (by simp [Opd.sl]))
  | c v => rfl

/-- One operation, its result and its heap told. -/
def StepOk (P : Program) (i : Ins) (s : List AV) (G : List ABlk) (v : AV) (G' : List ABlk) : Prop :=
  match wanted s i.g with
  | some true =>
    match i.k with
    | .call f args => ACalls P f (args.map (get s)) G fun v' G'' => v' = v ∧ G'' = G'
    | .callv g args => match get s g with
      | .fn f caps => callOk P f = true ∧ ACalls P f (args.map (get s) ++ caps) G fun v' G'' => v' = v ∧ G'' = G'
      | _ => False
    | k => evK k s G = some (v, G')
  | some false => v = .tup [] ∧ G' = G
  | none => False

theorem map_get_mask {rd : List Nat} {s : List AV} {l : List Opd} (h : ∀ t ∈ l.flatMap Opd.sl, t ∈ rd) : l.map (get (mask rd s)) = l.map (get s) :=
  List.map_congr_left fun x hx => get_mask fun t ht => h t (List.mem_flatMap.2 ⟨x, hx, ht⟩)
theorem bnd_mask {rd : List Nat} {s : List AV} {d : Nat} {x : Option Opd} (h : ∀ t ∈ Opd.slO x, t ∈ rd) : bnd (mask rd s) d x = bnd s d x := by
  cases x with
  | none => rfl
  | some x => simp only [bnd, get_mask (x := x) h]
theorem ints_mask {rd : List Nat} {s : List AV} : ∀ {l : List Opd}, (∀ t ∈ l.flatMap Opd.sl, t ∈ rd) → ints (mask rd s) l = ints s l
  | [], _ => rfl
  | x :: l, h => by
    simp only [ints, get_mask (x := x) (s := s) (rd := rd) fun t ht => h t (by simp [ht]), ints_mask (l := l) (s := s) (rd := rd) fun t ht => h t (by simp only [List.flatMap_cons, List.mem_append]; exact .inr ht)]
theorem evK_mask {rd : List Nat} {s : List AV} {G : List ABlk} {k : K} (h : ∀ t ∈ k.sl, t ∈ rd) : evK k (mask rd s) G = evK k s G := by
  have m2 : ∀ {l l' : List Nat} (_ : ∀ t ∈ l ++ l', t ∈ rd), (∀ t ∈ l, t ∈ rd) ∧ (∀ t ∈ l', t ∈ rd) := fun h => ⟨fun t ht => h t (List.mem_append.2 (.inl ht)), fun t ht => h t (List.mem_append.2 (.inr ht))⟩
  cases k with
  | bs md e sz ps =>
    have hall : ps.all (fun p => shown (get (mask rd s) p) && (cellsAV (get (mask rd s) p)).length == sz) = ps.all (fun p => shown (get s p) && (cellsAV (get s p)).length == sz) := by
      have := map_get_mask (s := s) (l := ps) h
      have h1 : ∀ s : List AV, ps.all (fun p => shown (get s p) && (cellsAV (get s p)).length == sz) = (ps.map (get s)).all (fun x => shown x && (cellsAV x).length == sz) := fun s => by rw [List.all_map]; rfl
      rw [h1, h1, this]
    have hmap : (ps.map fun p => cellsAV (get (mask rd s) p)) = ps.map fun p => cellsAV (get s p) := by
      have := map_get_mask (s := s) (l := ps) h
      have h1 : ∀ s : List AV, (ps.map fun p => cellsAV (get s p)) = (ps.map (get s)).map cellsAV := fun s => by rw [List.map_map]; rfl
      rw [h1, h1, this]
    simp only [evK, hall, hmap]
  | bd z ps =>
    have hmap : (ps.map fun p => (p.1, p.2.1, get (mask rd s) p.2.2)) = ps.map fun p => (p.1, p.2.1, get s p.2.2) :=
      List.map_congr_left fun x hx => by rw [get_mask fun t ht => h t (List.mem_flatMap.2 ⟨x, hx, ht⟩)]
    simp only [evK, hmap]
  | mn xs => simp only [evK, ints_mask (l := xs) h]
  | mx xs => simp only [evK, ints_mask (l := xs) h]
  | mkf f xs => simp only [evK, map_get_mask (l := xs) h]
  | sli b x lo hi sz =>
    obtain ⟨h1, h2⟩ := m2 h
    obtain ⟨h3, h4⟩ := m2 h1
    simp only [evK, get_mask (x := x) h3, bnd_mask (x := lo) h4, bnd_mask (x := hi) h2]
  | sla x lo hi n sz =>
    obtain ⟨h1, h2⟩ := m2 h
    obtain ⟨h3, h4⟩ := m2 h1
    simp only [evK, get_mask (x := x) h3, bnd_mask (x := lo) h4, bnd_mask (x := hi) h2]
  | pick c a b =>
    obtain ⟨h1, h2⟩ := m2 h
    obtain ⟨h3, h4⟩ := m2 h1
    simp only [evK, get_mask (x := c) h3, get_mask (x := a) h4, get_mask (x := b) h2]
  | st x v n => obtain ⟨h1, h2⟩ := m2 h; simp only [evK, get_mask (x := x) h1, get_mask (x := v) h2]
  | bin op x v => obtain ⟨h1, h2⟩ := m2 h; simp only [evK, get_mask (x := x) h1, get_mask (x := v) h2]
  | ia x v n => obtain ⟨h1, h2⟩ := m2 h; simp only [evK, get_mask (x := x) h1, get_mask (x := v) h2]
  | iar x v n m => obtain ⟨h1, h2⟩ := m2 h; simp only [evK, get_mask (x := x) h1, get_mask (x := v) h2]
  | ix x v => obtain ⟨h1, h2⟩ := m2 h; simp only [evK, get_mask (x := x) h1, get_mask (x := v) h2]
  | ixv x v n => obtain ⟨h1, h2⟩ := m2 h; simp only [evK, get_mask (x := x) h1, get_mask (x := v) h2]
  | app md e sz b x v => obtain ⟨h1, h2⟩ := m2 h; simp only [evK, get_mask (x := x) h1, get_mask (x := v) h2]
  | eqs n x v => obtain ⟨h1, h2⟩ := m2 h; simp only [evK, get_mask (x := x) h1, get_mask (x := v) h2]
  | eqp n x v => obtain ⟨h1, h2⟩ := m2 h; simp only [evK, get_mask (x := x) h1, get_mask (x := v) h2]
  | cpy n x v => obtain ⟨h1, h2⟩ := m2 h; simp only [evK, get_mask (x := x) h1, get_mask (x := v) h2]
  | mks a b c d e x v => obtain ⟨h1, h2⟩ := m2 h; simp only [evK, get_mask (x := x) h1, get_mask (x := v) h2]
  | lk a b x v c => obtain ⟨h1, h2⟩ := m2 h; simp only [evK, get_mask (x := x) h1, get_mask (x := v) h2]
  | me a b x v => obtain ⟨h1, h2⟩ := m2 h; simp only [evK, get_mask (x := x) h1, get_mask (x := v) h2]
  | del a x v => obtain ⟨h1, h2⟩ := m2 h; simp only [evK, get_mask (x := x) h1, get_mask (x := v) h2]
  | ixb a x v => obtain ⟨h1, h2⟩ := m2 h; simp only [evK, get_mask (x := x) h1, get_mask (x := v) h2]
  | eqg a b x v => obtain ⟨h1, h2⟩ := m2 h; simp only [evK, get_mask (x := x) h1, get_mask (x := v) h2]
  | mu a x v y =>
    obtain ⟨h1, h2⟩ := m2 h
    obtain ⟨h3, h4⟩ := m2 h1
    simp only [evK, get_mask (x := x) h3, get_mask (x := v) h4, get_mask (x := y) h2]
  | mes x v y =>
    obtain ⟨h1, h2⟩ := m2 h
    obtain ⟨h3, h4⟩ := m2 h1
    simp only [evK, get_mask (x := x) h3, get_mask (x := v) h4, get_mask (x := y) h2]
  | s2b a b x => simp only [evK, get_mask (x := x) h]
  | b2s x => simp only [evK, get_mask (x := x) h]
  | isn m n x => simp only [evK, get_mask (x := x) h]
  | mv x => simp only [evK, get_mask (x := x) h]
  | mvg e z x => simp only [evK, get_mask (x := x) h]
  | bx x => simp only [evK, get_mask (x := x) h]
  | ld x n g => simp only [evK, get_mask (x := x) h]
  | nc x => simp only [evK, get_mask (x := x) h]
  | un op x => simp only [evK, get_mask (x := x) h]
  | cvi k x => simp only [evK, get_mask (x := x) h]
  | fa x n => simp only [evK, get_mask (x := x) h]
  | fld x n m g => simp only [evK, get_mask (x := x) h]
  | slz x => simp only [evK, get_mask (x := x) h]
  | ext x n => simp only [evK, get_mask (x := x) h]
  | len b x => simp only [evK, get_mask (x := x) h]
  | _ => simp only [evK]

theorem StepOk.masked {P : Program} {i : Ins} {s : List AV} {G G' : List ABlk} {v : AV} (h : StepOk P i s G v G') {rd : List Nat} (hr : ∀ t ∈ i.sl, t ∈ rd) :
    wpIns P [i] (mask rd s) G fun s' G'' => s' = setO (mask rd s) i.dst v ∧ G'' = G' := by
  have hk : ∀ t ∈ i.k.sl, t ∈ rd := fun t ht => hr t (List.mem_append.2 (.inl ht))
  have hw : wanted (mask rd s) i.g = wanted s i.g := by
    cases hg : i.g with
    | none => rfl
    | some gb =>
      obtain ⟨g, b⟩ := gb
      have : g ∈ rd := hr g (List.mem_append.2 (.inr (by simp [hg])))
      simp only [wanted, mask_get this]
  unfold StepOk at h
  split at h
  · rename_i hwt
    simp only [wpIns, hw, hwt]
    split at h
    · rename_i f args e
      rw [e] at hk
      simp only [e, map_get_mask (l := args) hk]
      exact h.mono fun v' G'' hh => ⟨by rw [hh.1], hh.2⟩
    · rename_i g args e
      rw [e] at hk
      have hg : get (mask rd s) g = get s g := get_mask fun t ht => hk t (List.mem_append.2 (.inl ht))
      have ha : args.map (get (mask rd s)) = args.map (get s) := map_get_mask fun t ht => hk t (List.mem_append.2 (.inr ht))
      simp only [e, hg, ha]
      split at h
      · rename_i hfn
        simp only [hfn]
        exact ⟨h.1, h.2.mono fun v' G'' hh => ⟨by rw [hh.1], hh.2⟩⟩
      · exact h.elim
    · rename_i x1 x2
      split
      · rename_i f args e; exact (x1 f args e).elim
      · rename_i g args e; exact (x2 g args e).elim
      · rw [evK_mask hk, h]
        exact ⟨rfl, rfl⟩
  · rename_i hwt
    simp only [wpIns, hw, hwt]
    obtain ⟨rfl, rfl⟩ := h
    exact ⟨rfl, rfl⟩
  · exact h.elim

def kill (U : List Nat) (H : List ABlk) : List ABlk := U.foldl (fun H b => H.set b .dead) H
theorem kill_length : ∀ (U : List Nat) (H : List ABlk), (kill U H).length = H.length
  | [], H => rfl
  | b :: U, H => by show (kill U (H.set b .dead)).length = _; rw [kill_length U]; simp
theorem kill_in : ∀ (U : List Nat) (H : List ABlk) {b : Nat}, b ∈ U → b < H.length → (kill U H)[b]? = some .dead
  | [], H, b, h, _ => by cases h
  | c :: U, H, b, h, hl => by
    show (kill U (H.set c .dead))[b]? = _
    by_cases hb : b ∈ U
    · exact kill_in U _ hb (by simpa using hl)
    · rcases List.mem_cons.1 h with rfl | h
      · have out : ∀ (U : List Nat) (H : List ABlk), b ∉ U → (kill U H)[b]? = H[b]? := fun U => by
          induction U with
          | nil => intro H _; rfl
          | cons c U ih =>
            intro H hn
            show (kill U (H.set c .dead))[b]? = _
            rw [ih _ (fun h => hn (List.mem_cons_of_mem _ h)), List.getElem?_set_ne (fun e => hn (by rw [e]; exact List.mem_cons_self))]
        rw [out U _ hb]
        simp [hl]
      · exact absurd h hb
theorem kill_out : ∀ (U : List Nat) (H : List ABlk) {b : Nat}, b ∉ U → (kill U H)[b]? = H[b]?
  | [], H, b, _ => rfl
  | c :: U, H, b, hn => by
    show (kill U (H.set c .dead))[b]? = _
    rw [kill_out U _ (fun h => hn (List.mem_cons_of_mem _ h)), List.getElem?_set_ne (fun e => hn (by rw [e]; exact List.mem_cons_self))]

/-- WHAT IS ASKED OF THE OPERATIONS, one behind the other: ws: the names that each writes; U: those that others write which may come up ahead of it or behind it. -/
def DChain (P : Program) (ws U : List (List Nat)) (H0 : List ABlk) : Nat → List Ins → List AV → List ABlk → (List AV → List ABlk → Prop) → Prop
  | _, [], s, H, Kk => Kk s H
  | j, i :: r, s, H, Kk => ∃ v H', StepOk P i s (kill (U.getD j []) H) v (kill (U.getD j []) H') ∧ (∀ b, b ∉ ws.getD j [] → H'[b]? = H[b]?) ∧ H.length ≤ H'.length ∧
      (∀ b ∈ ws.getD j [], b ∉ U.getD j [] ∧ H0[b]? ≠ some .dead) ∧ DChain P ws U H0 (j + 1) r (setO s i.dst v) H' Kk

theorem DChain.seq {P : Program} {ws U : List (List Nat)} {H0 : List ABlk} {Kk : List AV → List ABlk → Prop} : ∀ (l : List Ins) (j : Nat) (s : List AV) (H : List ABlk), DChain P ws U H0 j l s H Kk →
    ∃ (st : Nat → List AV) (Hs : Nat → List ABlk) (v : Nat → AV), st j = s ∧ Hs j = H ∧ (∀ k i, l[k]? = some i → StepOk P i (st (j + k)) (kill (U.getD (j + k) []) (Hs (j + k))) (v (j + k)) (kill (U.getD (j + k) []) (Hs (j + k + 1))) ∧
      st (j + k + 1) = setO (st (j + k)) i.dst (v (j + k)) ∧ (∀ b, b ∉ ws.getD (j + k) [] → (Hs (j + k + 1))[b]? = (Hs (j + k))[b]?) ∧ (Hs (j + k)).length ≤ (Hs (j + k + 1)).length ∧
      (∀ b ∈ ws.getD (j + k) [], b ∉ U.getD (j + k) [] ∧ H0[b]? ≠ some .dead)) ∧ Kk (st (j + l.length)) (Hs (j + l.length))
  | [], j, s, H, h => ⟨fun _ => s, fun _ => H, fun _ => .any, rfl, rfl, fun k i hk => by simp at hk, h⟩
  | i :: l, j, s, H, h => by
    obtain ⟨v0, H', h1, h2, h3, h4, h5⟩ := h
    obtain ⟨st, Hs, v, e1, e2, e3, e4⟩ := DChain.seq l (j + 1) _ H' h5
    refine ⟨fun k => if k = j then s else st k, fun k => if k = j then H else Hs k, fun k => if k = j then v0 else v k, by simp, by simp, fun k i' hk => ?_, ?_⟩
    · cases k with
      | zero =>
        simp at hk; subst hk
        simp only [Nat.add_zero, if_true, show ¬ (j + 1 = j) by omega, if_false, e1, e2]
        exact ⟨h1, trivial, h2, h3, h4⟩
      | succ k =>
        simp at hk
        have := e3 k i' hk
        have n1 : ¬ (j + 1 + k = j) := by omega
        have n2 : ¬ (j + 1 + k + 1 = j) := by omega
        rw [show j + (k + 1) = j + 1 + k by omega]
        simp only [n1, n2, if_false]
        exact this
    · have n1 : ¬ (j + 1 + l.length = j) := by omega
      rw [List.length_cons, show j + (l.length + 1) = j + 1 + l.length by omega]
      simp only [n1, if_false]
      exact e4

def wrOf (l : List Ins) (j : Nat) : Option Nat := (l[j]?).bind (·.dst)
def rdOf (l : List Ins) (j : Nat) : List Nat := ((l[j]?).map Ins.sl).getD []
def drawOk (pr : List (List Nat)) (l : List Ins) : Bool :=
  let an := anc pr
  (List.range l.length).all fun j => (pr.getD j []).all (· < j) &&
    (List.range j).all fun i => (an.getD j []).contains i ||
      ((match wrOf l i with | some d => !(rdOf l j).contains d && wrOf l j != some d | none => true) &&
       (match wrOf l j with | some d => !(rdOf l i).contains d | none => true))
def killsOf (pr ws : List (List Nat)) (n j : Nat) : List Nat :=
  let an := anc pr
  (List.range n).flatMap fun i => if i == j || (an.getD j []).contains i || (an.getD i []).contains j then [] else ws.getD i []

end Go.Proofs.Ytalhmnijkkihgaa
