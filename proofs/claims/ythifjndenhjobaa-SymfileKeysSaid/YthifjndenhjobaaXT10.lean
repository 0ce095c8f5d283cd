/- tables.fielded: few bases, and no field twice. -/
import Derived.Test.YthifjndenhjobaaXT7
namespace Go.Proofs.Ythifjndenhjobaa
set_option linter.unusedSimpArgs false
set_option linter.unusedVariables false
set_option maxRecDepth 20000
set_option maxHeartbeats 4000000
open Go.RowKit

def c122l0 : AC :=
 .seq (.reg [kn 18 (.bin .lss (.t 17) (.t 16))])
 (.seq (.cond (.t 18) (.skip) (.exit 2))
 (.seq (.block 3 (.seq (.reg [kn 19 (.ia (.t 15) (.t 17) 3), kn 20 (.ld (.t 19) 3 true), kn 8 (.al [(.d (.v (.string ⟨#[]⟩))), (.d (.v (.bool false))), kz]), ke (.st (.t 8) (.t 20) 3)])
 (.seq (.reg [kn 21 (.mv (.t 5)), kn 22 (.fa (.t 8) 0), kn 23 (.ld (.t 22) 1 false), kn 24 (.lk ⟨false, [.s]⟩ kz (.t 21) (.t 23) false), kn 25 (.bin .add (.t 24) (kc 1)), ke (.mu ⟨false, [.s]⟩ (.t 21) (.t 23) (.t 25))])
 (.seq (.reg [kn 26 (.mv (.t 5)), kn 27 (.fa (.t 8) 0), kn 28 (.ld (.t 27) 1 false), kn 29 (.lk ⟨false, [.s]⟩ kz (.t 26) (.t 28) false), kn 30 (.bin .gtr (.t 29) (kc 1))])
 (.cond (.t 30) (.seq (.reg [kn 4 (.mv (.c (.d (.v (.bool false)))))])
 (.ret)) (.skip))))))
 (.reg [kn 31 (.bin .add (.t 17) (kc 1)), kn 17 (.mv (.t 31))])))

def c122l1 : AC :=
 .seq (.block 1 (.seq (.seq (.reg [kn 12 (.mv (.t 6)), kn 13 (.bin .gtr (.t 12) (kc 4))])
 (.cond (.t 13) (.seq (.reg [kn 4 (.mv (.c (.d (.v (.bool false)))))])
 (.ret)) (.skip)))
 (.seq (.seq (.reg [kn 14 (.fa (.t 3) 6), kn 15 (.ld (.t 14) 1 false), kn 16 (.len false (.t 15)), kn 17 (.mv (kc 0))])
 (.block 2 (.loop c122l0)))
 (.seq (.seq (.reg [kn 32 (.fa (.t 3) 5), kn 33 (.ld (.t 32) 1 false), kn 34 (.bin .eql (.t 33) (kc 0))])
 (.cond (.t 34) (.seq (.reg [kn 4 (.mv (.c (.d (.v (.bool true)))))])
 (.ret)) (.skip)))
 (.reg [kn 35 (.mv (.t 0)), kn 36 (.fa (.t 3) 5), kn 37 (.ld (.t 36) 1 false), kn 38 (.ia (.t 35) (.t 37) 10), kn 39 (.ld (.t 38) 10 true), ke (.st (.t 3) (.t 39) 10)])))))
 (.reg [kn 10 (.mv (.t 6)), kn 11 (.bin .add (.t 10) (kc 1)), kn 6 (.mv (.t 11))])

def c122 : AC :=
 .seq (.reg [kn 3 (.bx (.t 1)), kn 4 (.mv (.c (.d (.v (.bool false)))))])
 (.seq (.reg [kn 9 (.mkm ⟨false, [.s]⟩), kn 5 (.mv (.t 9))])
 (.seq (.reg [kn 6 (.mv (kc 0))])
 (.block 0 (.loop c122l1))))
def r122 : List RC := [.t 4]

theorem cc122 : Try.f122.body.bind (comp Try.prog (hh 122)) = some c122 := by kernel_rfl
theorem rr122 : resC Try.prog Try.f122 = some r122 := by kernel_rfl
def mkN (n : Nat) : List ByteArray → List (Value × AV × Nat)
 | [] => []
 | s :: l => (.string s, iv 1, n) :: mkN (n + 1) l
theorem mkN_app : ∀ (n : Nat) (l : List ByteArray) (s : ByteArray), mkN n (l ++ [s]) = mkN n l ++ [(.string s, iv 1, n + l.length)]
 | n, [], s => by simp [mkN]
 | n, x :: l, s => by
  simp only [List.cons_append, mkN, mkN_app (n + 1) l s, List.length_cons]
  rw [show n + 1 + l.length = n + (l.length + 1) by omega]
theorem keq_s (a b : ByteArray) : keq (.string a) (.string b) = decide (a = b) := rfl
theorem mkN_get {s : ByteArray} : ∀ {n : Nat} {l : List ByteArray}, (s ∈ l → ∃ c, mapGet (mkN n l) (.string s) = some (iv 1, c)) ∧ (s ∉ l → mapGet (mkN n l) (.string s) = none)
 | n, [] => ⟨fun h => by simp at h, fun _ => rfl⟩
 | n, x :: l => by
  simp only [mkN, mapGet, keq_s]
  by_cases h : x = s
  ·subst h
   simp
  ·have := mkN_get (s := s) (n := n + 1) (l := l)
   simp only [decide_eq_true_eq, h, if_false, List.mem_cons, Ne.symm h, false_or]
   exact this
theorem mapSet_get {k : Value} {v : AV} : ∀ {es : List (Value × AV × Nat)} {x : AV × Nat}, mapGet es k = some x → mapGet (mapSet es k v) k = some (v, x.2)
 | e :: r, x, h => by
  simp only [mapGet, mapSet] at h ⊢
  split at h
  ·rename_i hk
   rw [if_pos hk]
   simp only [mapGet]
   rw [if_pos hk]
   cases h; rfl
  ·rename_i hk
   rw [if_neg hk]
   simp only [mapGet]
   rw [if_neg hk]
   exact mapSet_get h
theorem put_new {es : List (Value × AV × Nat)} {k : Value} {v : AV} {ck : Nat} (h : mapGet es k = none) : mapPut ck es k v = (ck + 1, es ++ [(k, v, ck)]) := by simp only [mapPut, h]
theorem put_old {es : List (Value × AV × Nat)} {k : Value} {v : AV} {ck : Nat} {x : AV × Nat} (h : mapGet es k = some x) : mapPut ck es k v = (ck, mapSet es k v) := by simp only [mapPut, h]
theorem keyOf_s (s : ByteArray) : keyOf (sv s) = some (.string s) := rfl
theorem fits_s {s : ByteArray} (h : s.size ≤ 140737488355328) : keyFits ⟨false, [.s]⟩ (.string s) = true := by simp only [keyFits, kcFit, decide_eq_true_eq]; exact Nat.le_trans h (by decide)
theorem hs_1 (H : List ABlk) (a b c d : ABlk) : (H ++ [a, b, c]).set (H.length + 1) d = H ++ [a, d, c] := by rw [List.set_append_right _ _ (by omega)]; simp
abbrev ktN : KT := ⟨false, [.s]⟩
abbrev SX (H : List ABlk) (t : List Ty) (n : Int) : List AV := [tv t, .any, .any, .ptr H.length 0, bv false, .mp (H.length + 1), iv n]
abbrev hx2 (x : Ty) (l : List ByteArray) : List ABlk := [.cells x.cs, .map ktN l.length (mkN 0 l)]
theorem mkN_refs (kt : KT) (ck : Nat) : ∀ (n : Nat) (l : List ByteArray), (ABlk.map kt ck (mkN n l)).refs = []
 | n, [] => rfl
 | n, s :: l => by
  have := mkN_refs kt ck (n + 1) l
  simp [mkN, ABlk.refs, refs] at this ⊢
  exact this
theorem cl_hx2 {H : List ABlk} (h : cl H) {x : Ty} {l : List ByteArray} : cl (H ++ hx2 x l) := by
 refine h.append fun k hk r hr => ?_
 simp only [List.mem_cons, List.not_mem_nil, or_false] at hk
 rcases hk with rfl | rfl
 ·simp [ABlk.refs, refs.refsL, refs, Ty.cs] at hr
 ·rw [mkN_refs] at hr; simp at hr
theorem fielded_l0 {t : List Ty} {x : Ty} {H : List ABlk} (hcl : cl H) (hfl : x.fields.length ≤ 9000000) (hfn : ∀ f ∈ x.fields, f.name.size ≤ 140737488355328) (bs : Int) (l0 : List ByteArray) (hl0 : l0.Nodup) :
 W Try.prog (hh 122) H.length (.loop c122l0) (SX H t bs ++ List.replicate 8 .any ++ [fdv x.fields, iv x.fields.length, iv (0 : Nat)] ++ List.replicate 22 .any) (H ++ hx2 x l0)
  (fun e s H' => (e = .exit 2 ∧ s = SX H t bs ++ List.replicate 8 .any ++ [fdv x.fields, iv x.fields.length, iv (x.fields.length : Nat), bv false] ++ List.replicate 21 .any ∧ H' = H ++ hx2 x (l0 ++ x.fields.map Fd.name) ∧ (l0 ++ x.fields.map Fd.name).Nodup) ∨
    (e = .ret ∧ resA [RC.t 4] s H' = some (bv false) ∧ (∃ l, H' = H ++ l) ∧ ¬ (l0 ++ x.fields.map Fd.name).Nodup)) := by
 obtain ⟨S, hS⟩ : ∃ S : Nat → List AV, ∀ i, S i = SX H t bs ++ List.replicate 8 .any ++ [fdv x.fields, iv x.fields.length, iv i] ++ List.replicate 22 .any := ⟨_, fun _ => rfl⟩
 obtain ⟨L, hL⟩ : ∃ L : Nat → List ByteArray, ∀ i, L i = l0 ++ (x.fields.take i).map Fd.name := ⟨_, fun _ => rfl⟩
 have hL0 : L 0 = l0 := by rw [hL]; simp
 have hLn : ∀ i, i < x.fields.length → L (i + 1) = L i ++ [(x.fields.getD i default).name] := fun i hi => by
  rw [hL, hL, getD_take (d := default) hi]; simp
 have hLF : L x.fields.length = l0 ++ x.fields.map Fd.name := by rw [hL, List.take_length]
 have hsub : ∀ i, i ≤ x.fields.length → List.Sublist (L i) (L x.fields.length) := fun i hi => by
  rw [hL, hL, List.take_length]
  exact (List.Sublist.refl _).append ((List.take_sublist _ _).map _)
 refine W.loopG (γ := Nat) (fun i => x.fields.length - i) S (fun i => H ++ hx2 x (L i)) (fun i => i ≤ x.fields.length ∧ (L i).Nodup) 0 (by rw [hS, hL0]; exact Wk.refl) ⟨Nat.zero_le _, by rw [hL0]; exact hl0⟩ (fun i hi => ?_)
 obtain ⟨q1, q2⟩ := hi
 simp (maxSteps := 2000000) (disch := omega) only [c122l0, hS, List.append_assoc, List.cons_append, List.nil_append, go_sem, seval, reduceCtorEq]
 refine Br.dec (fun hc => ?_) (fun hc => ?_) <;> simp (maxSteps := 2000000) (disch := omega) only [go_sem, seval, reduceCtorEq]
 ·have hfa := iaA_fd (t := x.fields) (a := i) (by omega) (by omega)
  have e1 : fdAt x.fields (i : Int) = x.fields.getD i default := rfl
  rw [e1] at hfa
  have hn := hLn i (by omega)
  have hsb := hsub (i + 1) (by omega)
  rw [hn] at hsb
  have hsz := fits_s (hfn (x.fields.getD i default) (by rw [List.getD_eq_getElem?_getD, List.getElem?_eq_getElem (by omega)]; exact List.getElem_mem _))
  generalize x.fields.getD i default = f at *
  by_cases hm : f.name ∈ L i
  ·obtain ⟨c, hg⟩ := (mkN_get (s := f.name) (n := 0) (l := L i)).1 hm
   have hp := put_old (ck := (L i).length) (v := iv 2) hg
   have hg2 := mapSet_get (v := iv 2) hg
   simp (maxSteps := 2000000) (disch := omega) only [hfa, Fd.c, keyOf_s, hsz, mapOf, hg, hp, hg2, hb_0, hb_1, hb_2, hs_2, hs_1, hb_0', hb_1', List.append_assoc, List.cons_append, List.nil_append, go_sem, seval, reduceCtorEq]
   refine .inr ⟨⟨_, rfl⟩, fun hnd => ?_⟩
   rw [← hLF] at hnd
   have := hnd.sublist hsb
   rw [List.nodup_append] at this
   exact this.2.2 _ hm _ (List.mem_singleton.2 rfl) rfl
  ·have hg := (mkN_get (s := f.name) (n := 0) (l := L i)).2 hm
   have hp := put_new (ck := (L i).length) (v := iv 1) hg
   have hap := mkN_app 0 (L i) f.name
   rw [Nat.zero_add] at hap
   have hg2 := mapGet_app (z := iv 1) (c := (L i).length) hg (show keq (.string f.name) (.string f.name) = true by simp [keq_s])
   simp (maxSteps := 2000000) (disch := omega) only [hfa, Fd.c, keyOf_s, hsz, mapOf, hg, hp, hg2, hb_0, hb_1, hb_2, hs_2, hs_1, hb_0', hb_1', List.append_assoc, List.cons_append, List.nil_append, go_sem, seval, reduceCtorEq]
   rw [show ∀ (A : List ABlk) (p q r : ABlk), A ++ [p, q, r] = (A ++ [p, q]) ++ [r] from fun A p q r => by simp, ← hap, ← hn, show (L i).length + 1 = (L (i + 1)).length by rw [hn]; simp]
   refine Nxt.mk (i + 1) (by omega) (Wk.drop (by rw [hS]; exact WkL.tail 18 _ rfl (by simp only [List.take_succ_cons, List.take_zero]; repeat' first | exact WkL.nil | refine WkL.cons (Wk1.rfl _) ?_ | refine WkL.cons Wk1.esl ?_ | refine WkL.cons (Wk1.gsl _ _ _) ?_ | refine WkL.cons (Wk1.any _) ?_)) (by simp) ?_ ?_) ⟨by omega, ?_⟩
   ·exact cl_hx2 hcl
   ·rw [hS]; simp [refs, refs.refsL]
   ·rw [hn, List.nodup_append]
    exact ⟨q2, by simp, fun a ha b hb e => hm (by rw [List.mem_singleton] at hb; rw [← hb, ← e]; exact ha)⟩
 ·have hie : i = x.fields.length := by omega
  subst hie
  rw [← hLF]
  exact .inl ⟨rfl, rfl, q2⟩

structure TBase (t : List Ty) : Prop where
 len : t.length ≤ 256
 fd : ∀ x ∈ t, x.fields.length ≤ 9000000 ∧ ∀ f ∈ x.fields, f.name.size ≤ 140737488355328
 base : ∀ a : Int, 0 ≤ a → a < t.length → (tyAt t a).form = 9 → (tyAt t a).base = 0 ∨ (0 ≤ (tyAt t a).base ∧ (tyAt t a).base < t.length ∧ (tyAt t (tyAt t a).base).form = 9)
theorem fielded_c {t : List Ty} (ht : TBase t) {a0 : Int} (h0 : 0 ≤ a0 ∧ a0 < t.length) (f9 : (tyAt t a0).form = 9) (H : List ABlk) : ACalls Try.prog 122 [tv t, (tyAt t a0).av] H fun v H' => (∃ B, v = bv B ∧ (B = true ↔ ChainP t a0)) ∧ H' = H := by
 refine ACalls.into Try.func122 cc122 rr122 fun hcl => ?_
 have htl := ht.len
 simp (maxSteps := 2000000) (disch := omega) only [Try.ntmps122, c122, r122, List.append_assoc, List.cons_append, List.nil_append, go_sem, seval, reduceCtorEq]
 obtain ⟨S, hS⟩ : ∃ S : Nat → List AV, ∀ n, S n = SX H t n ++ List.replicate 33 .any := ⟨_, fun _ => rfl⟩
 refine W.loopG (γ := Nat × Int × List Int) (fun g => 6 - g.1) (fun g => S g.1) (fun g => H ++ hx2 (tyAt t g.2.1) (namesL t g.2.2)) (fun g => g.1 ≤ 5 ∧ (0 ≤ g.2.1 ∧ g.2.1 < t.length) ∧ (tyAt t g.2.1).form = 9 ∧ chain t 5 a0 = g.2.2 ++ chain t (5 - g.1) g.2.1 ∧ g.2.2.length = g.1 ∧ (namesL t g.2.2).Nodup) (0, a0, []) (by simp only [hS]; exact Wk.slots (by (try simp only [List.replicate, List.cons_append, List.nil_append]); repeat' first | exact WkL.nil | refine WkL.cons (Wk1.rfl _) ?_ | refine WkL.cons Wk1.esl ?_ | refine WkL.cons (Wk1.gsl _ _ _) ?_ | refine WkL.cons (Wk1.any _) ?_)) ⟨by omega, h0, f9, by simp, rfl, by simp [namesL]⟩ (fun g hg => ?_)
 obtain ⟨n, a, vs⟩ := g
 obtain ⟨q1, q2, q3, q4, q5, q6⟩ := hg
 simp only at q1 q2 q3 q4 q5 q6
 have hx := ht.fd _ (tyAt_mem q2.1 q2.2)
 have hba := ht.base a q2.1 q2.2 q3
 have fin : ∀ {v : Bool}, (v = true ↔ ChainP t a0) → ∀ l, Ret [RC.t 4] H.length (fun v H' => (∃ B, v = bv B ∧ (B = true ↔ ChainP t a0)) ∧ H' = H) (some (bv v)) (H ++ l) := fun {v} e l => Ret.drop (bv v) H (Nat.le_refl _) hcl (.rfl _) (by simp [refs]) ⟨⟨v, rfl, e⟩, rfl⟩
 have hnm : namesL t (chain t 5 a0) = (namesL t vs ++ (tyAt t a).fields.map Fd.name) ++ namesL t ((chain t (5 - n) a).tail) := by
  rw [q4]
  have : ∀ k, namesL t (chain t k a) = (tyAt t a).fields.map Fd.name ++ namesL t ((chain t k a).tail) := fun k => by cases k <;> simp [chain, namesL]
  rw [namesL, List.flatMap_append, List.append_assoc]
  exact congrArg _ (this _)
 simp (maxSteps := 2000000) (disch := omega) only [c122l1, hS, List.append_assoc, List.cons_append, List.nil_append, go_sem, seval, reduceCtorEq]
 refine Br.dec (fun hc => ?_) (fun hc => ?_) <;> simp (maxSteps := 2000000) (disch := omega) only [Ty.cs, hb_0', hb_1', List.length_map, go_sem, seval, reduceCtorEq]
 ·refine fin ⟨fun h => by simp at h, fun h => ?_⟩ _
  have := h.1
  rw [q4, List.length_append, show 5 - n = 0 by omega] at this
  simp [chain] at this; omega
 ·refine W.weak (Wk.slots (by (try simp only [List.replicate, List.cons_append, List.nil_append]); repeat' first | exact WkL.nil | refine WkL.cons (Wk1.rfl _) ?_ | refine WkL.cons Wk1.esl ?_ | refine WkL.cons (Wk1.gsl _ _ _) ?_ | refine WkL.cons (Wk1.any _) ?_)) (W.mono (fielded_l0 (x := tyAt t a) hcl hx.1 hx.2 n (namesL t vs) q6) ?_)
  rintro e s H' (⟨rfl, rfl, rfl, h3⟩ | ⟨rfl, hr, ⟨l, rfl⟩, h3⟩)
  ·by_cases hz : (tyAt t a).base = 0
   ·have kz := beq_iff_eq.2 hz
    have kz' := decide_eq_true hz
    simp (maxSteps := 2000000) (disch := omega) only [Ty.cs, kz, kz', hb_0', hb_1', List.append_assoc, List.cons_append, List.nil_append, go_sem, seval, reduceCtorEq]
    refine fin ⟨fun _ => ?_, fun _ => rfl⟩ _
    have hc5 : chain t (5 - n) a = [a] := by
     rw [show 5 - n = (4 - n) + 1 by omega]; simp [chain, hz]
    refine ⟨by rw [q4, hc5, List.length_append, q5]; simp; omega, ?_⟩
    rw [hnm, hc5]
    simpa [namesL] using h3
   ·have kz := beq_eq_false_iff_ne.2 hz
    have kz' := decide_eq_false hz
    obtain ⟨b1, b2, b3⟩ := hba.resolve_left hz
    have hty := iaA_ty b1 b2
    have hc5 : chain t (5 - n) a = a :: chain t (5 - (n + 1)) (tyAt t a).base := by
     rw [show 5 - n = (5 - (n + 1)) + 1 by omega]; simp [chain, hz]
    simp (maxSteps := 2000000) (disch := omega) only [Ty.cs, kz, kz', hb_0', hb_1', hty, Ty.c, List.append_assoc, List.cons_append, List.nil_append, go_sem, seval, reduceCtorEq]
    have hn1 : namesL t (vs ++ [a]) = namesL t vs ++ (tyAt t a).fields.map Fd.name := by simp [namesL]
    refine Nxt.mk (n + 1, (tyAt t a).base, vs ++ [a]) (by simp only; omega) ?_ ⟨by simp only; omega, ⟨b1, b2⟩, b3, by simp only; rw [q4, hc5]; simp, by simp [q5], by simp only; rw [hn1]; exact h3⟩
    simp only [hn1]
    rw [show (namesL t vs).length + (tyAt t a).fields.length = (namesL t vs ++ (tyAt t a).fields.map Fd.name).length by simp]
    exact Wk.slots (by (try simp only [List.replicate, List.cons_append, List.nil_append]); repeat' first | exact WkL.nil | refine WkL.cons (Wk1.rfl _) ?_ | refine WkL.cons Wk1.esl ?_ | refine WkL.cons (Wk1.gsl _ _ _) ?_ | refine WkL.cons (Wk1.any _) ?_)
  ·refine (?_ : Ret _ _ _ (resA [RC.t 4] s (H ++ l)) (H ++ l))
   rw [hr]
   refine fin ⟨fun h => by simp at h, fun h => absurd ?_ h3⟩ _
   have := h.2
   rw [hnm] at this
   exact (List.nodup_append.1 this).1
end Go.Proofs.Ythifjndenhjobaa

/- tables.Good: its parts. -/
namespace Go.Proofs.Ythifjndenhjobaa
set_option linter.unusedSimpArgs false
set_option linter.unusedVariables false
set_option maxRecDepth 20000
set_option maxHeartbeats 4000000
open Go.RowKit

def c117 : AC :=
 .seq (.reg [kn 2 (.bx (.t 0)), kn 4 (.mv (.c (.d (.v (.bool false)))))])
 (.seq (.reg [kn 5 (.fa (.t 2) 0), kn 6 (.ld (.t 5) 1 false), kn 7 (.mv (.t 1)), kn 8 (.bin .eql (.t 6) (.t 7)), kn 9 (.mv (.t 8)), ky 10 9 (.fa (.t 2) 1), ky 11 9 (.ld (.t 10) 1 false), ky 12 9 (.bin .eql (.t 11) (.c (.d (.v (.string ⟨#[]⟩))))), kn 13 (.pick (.t 9) (.t 12) (.c (.d (.v (.bool false))))), kn 14 (.mv (.t 13)), ky 15 14 (.fa (.t 2) 2), ky 16 14 (.ld (.t 15) 1 false), ky 17 14 (.bin .eql (.t 16) (.c (.d (.v (.string ⟨#[]⟩))))), kn 18 (.pick (.t 14) (.t 17) (.c (.d (.v (.bool false))))), kn 19 (.mv (.t 18)), ky 20 19 (.fa (.t 2) 3), ky 21 19 (.ld (.t 20) 1 false), ky 22 19 (.bin .eql (.t 21) (kc 0)), kn 23 (.pick (.t 19) (.t 22) (.c (.d (.v (.bool false))))), kn 24 (.mv (.t 23)), ky 25 24 (.fa (.t 2) 4), ky 26 24 (.ld (.t 25) 1 false), ky 27 24 (.bin .eql (.t 26) (kc 0)), kn 28 (.pick (.t 24) (.t 27) (.c (.d (.v (.bool false))))), kn 29 (.mv (.t 28)), ky 30 29 (.fa (.t 2) 5), ky 31 29 (.ld (.t 30) 1 false), ky 32 29 (.bin .eql (.t 31) (kc 0)), kn 33 (.pick (.t 29) (.t 32) (.c (.d (.v (.bool false))))), kn 34 (.mv (.t 33)), ky 35 34 (.fa (.t 2) 8), ky 36 34 (.ld (.t 35) 1 false), ky 37 34 (.bin .eql (.t 36) (kc 0)), kn 38 (.pick (.t 34) (.t 37) (.c (.d (.v (.bool false))))), kn 39 (.mv (.t 38)), ky 40 39 (.fa (.t 2) 9), ky 41 39 (.ld (.t 40) 1 false), ky 42 39 (.bin .eql (.t 41) (kc 0)), kn 43 (.pick (.t 39) (.t 42) (.c (.d (.v (.bool false))))), kn 44 (.mv (.t 43)), ky 45 44 (.fa (.t 2) 6), ky 46 44 (.ld (.t 45) 1 false), ky 47 44 (.len false (.t 46)), ky 48 44 (.bin .eql (.t 47) (kc 0)), kn 49 (.pick (.t 44) (.t 48) (.c (.d (.v (.bool false))))), kn 50 (.mv (.t 49)), ky 51 50 (.fa (.t 2) 7), ky 52 50 (.ld (.t 51) 1 false), ky 53 50 (.len false (.t 52)), ky 54 50 (.bin .eql (.t 53) (kc 0)), kn 55 (.pick (.t 50) (.t 54) (.c (.d (.v (.bool false))))), kn 4 (.mv (.t 55))])
 (.ret))
def r117 : List RC := [.t 4]

def c120 : AC :=
 .seq (.reg [kn 4 (.mv (.c (.d (.v (.bool false)))))])
 (.seq (.reg [kn 5 (.mv (.t 0)), kn 6 (.mv (.t 1)), kn 7 (.call 135 [(.t 5), (.t 6)]), kn 8 (.bin .geq (.t 7) (kc 0)), kn 4 (.mv (.t 8))])
 (.ret))
def r120 : List RC := [.t 4]

def c121 : AC :=
 .seq (.reg [kn 2 (.bx (.t 0)), kn 3 (.mv (.c (.d (.v (.bool false)))))])
 (.seq (.reg [kn 4 (.fa (.t 2) 0), kn 5 (.ld (.t 4) 1 false), kn 6 (.bin .eql (.t 5) (kc 9)), kn 7 (.mv (.t 6)), ky 8 7 (.ld (.t 1) 1 false), ky 9 7 (.ld (.t 2) 10 true), ky 10 7 (.call 122 [(.t 8), (.t 9)]), ky 11 7 (.un .not (.t 10)), kn 12 (.pick (.t 7) (.t 11) (.c (.d (.v (.bool false))))), kn 3 (.mv (.t 12))])
 (.ret))
def r121 : List RC := [.t 3]

def c135l0 : AC :=
 .seq (.reg [kn 9 (.bin .lss (.t 8) (.t 7))])
 (.seq (.cond (.t 9) (.skip) (.exit 0))
 (.seq (.block 1 (.seq (.reg [kn 10 (.mv (.t 8)), kn 5 (.mv (.t 10))])
 (.seq (.reg [kn 11 (.mv (.t 1)), kn 12 (.mv (.t 0)), kn 13 (.mv (.t 5)), kn 14 (.ia (.t 12) (.t 13) 10), kn 15 (.ld (.t 14) 10 true), kn 16 (.callv (.t 11) [(.t 15)])])
 (.cond (.t 16) (.seq (.reg [kn 17 (.mv (.t 5)), kn 4 (.mv (.t 17))])
 (.ret)) (.skip)))))
 (.reg [kn 18 (.bin .add (.t 8) (kc 1)), kn 8 (.mv (.t 18))])))

def c135 : AC :=
 .seq (.reg [kn 4 (.mv (kc 0))])
 (.seq (.seq (.reg [kn 6 (.mv (.t 0)), kn 7 (.len false (.t 6)), kn 8 (.mv (kc 0))])
 (.block 0 (.loop c135l0)))
 (.seq (.reg [kn 4 (.mv (kc (-1)))])
 (.ret)))
def r135 : List RC := [.t 4]

theorem cc117 : Try.f117.body.bind (comp Try.prog (hh 117)) = some c117 := by kernel_rfl
theorem rr117 : resC Try.prog Try.f117 = some r117 := by kernel_rfl
theorem cc120 : Try.f120.body.bind (comp Try.prog (hh 120)) = some c120 := by kernel_rfl
theorem rr120 : resC Try.prog Try.f120 = some r120 := by kernel_rfl
theorem cc121 : Try.f121.body.bind (comp Try.prog (hh 121)) = some c121 := by kernel_rfl
theorem rr121 : resC Try.prog Try.f121 = some r121 := by kernel_rfl
theorem cc135 : Try.f135.body.bind (comp Try.prog (hh 135)) = some c135 := by kernel_rfl
theorem rr135 : resC Try.prog Try.f135 = some r135 := by kernel_rfl
theorem bare_c {x : Ty} (n : Int) (hf : x.fields.length ≤ 9000000) (hp : x.params.length ≤ 9000000) (H : List ABlk) : ACalls Try.prog 117 [x.av, iv n] H fun v H' => v = bv (decide (x = bt n)) ∧ H' = H := by
 obtain ⟨B, hB⟩ : ∃ B, B = decide (x = bt n) := ⟨_, rfl⟩
 rw [← hB]
 refine ACalls.into Try.func117 cc117 rr117 fun hcl => ?_
 have no : ∀ {p : Prop}, (x = bt n → p) → ¬ p → false = B := fun h hp => by rw [hB]; exact (decide_eq_false fun e => hp (h e)).symm
 have fin : ∀ {v : Bool}, v = B → ∀ l, Ret r117 H.length (fun v H' => v = bv B ∧ H' = H) (some (bv v)) (H ++ l) := fun {v} e l => Ret.drop (bv B) H (Nat.le_refl _) hcl (by rw [e]; exact .rfl _) (by simp [refs]) ⟨rfl, rfl⟩
 simp (maxSteps := 2000000) (disch := omega) only [Try.ntmps117, c117, r117, Ty.cs, List.length_map, go_sem, seval, reduceCtorEq]
 refine Br.yes (fun h1 => ?_) (fun h1 => ?_) <;> simp (maxSteps := 2000000) (disch := omega) only [h1, Ty.cs, List.length_map, go_sem, seval, reduceCtorEq]
 rotate_left
 ·exact fin (no (fun e => congrArg Ty.form e) (of_decide_eq_false h1)) _
 refine Br.yes (fun h2 => ?_) (fun h2 => ?_) <;> simp (maxSteps := 2000000) (disch := omega) only [h2, Ty.cs, List.length_map, go_sem, seval, reduceCtorEq]
 rotate_left
 ·exact fin (no (fun e => congrArg Ty.mod e) (of_decide_eq_false h2)) _
 refine Br.yes (fun h3 => ?_) (fun h3 => ?_) <;> simp (maxSteps := 2000000) (disch := omega) only [h3, Ty.cs, List.length_map, go_sem, seval, reduceCtorEq]
 rotate_left
 ·exact fin (no (fun e => congrArg Ty.name e) (of_decide_eq_false h3)) _
 refine Br.yes (fun h4 => ?_) (fun h4 => ?_) <;> simp (maxSteps := 2000000) (disch := omega) only [h4, Ty.cs, List.length_map, go_sem, seval, reduceCtorEq]
 rotate_left
 ·exact fin (no (fun e => congrArg Ty.len e) (of_decide_eq_false h4)) _
 refine Br.yes (fun h5 => ?_) (fun h5 => ?_) <;> simp (maxSteps := 2000000) (disch := omega) only [h5, Ty.cs, List.length_map, go_sem, seval, reduceCtorEq]
 rotate_left
 ·exact fin (no (fun e => congrArg Ty.elem e) (of_decide_eq_false h5)) _
 refine Br.yes (fun h6 => ?_) (fun h6 => ?_) <;> simp (maxSteps := 2000000) (disch := omega) only [h6, Ty.cs, List.length_map, go_sem, seval, reduceCtorEq]
 rotate_left
 ·exact fin (no (fun e => congrArg Ty.base e) (of_decide_eq_false h6)) _
 refine Br.yes (fun h7 => ?_) (fun h7 => ?_) <;> simp (maxSteps := 2000000) (disch := omega) only [h7, Ty.cs, List.length_map, go_sem, seval, reduceCtorEq]
 rotate_left
 ·exact fin (no (fun e => congrArg Ty.result e) (of_decide_eq_false h7)) _
 refine Br.yes (fun h8 => ?_) (fun h8 => ?_) <;> simp (maxSteps := 2000000) (disch := omega) only [h8, Ty.cs, List.length_map, go_sem, seval, reduceCtorEq]
 rotate_left
 ·exact fin (no (fun e => congrArg Ty.desc e) (of_decide_eq_false h8)) _
 refine Br.yes (fun h9 => ?_) (fun h9 => ?_) <;> simp (maxSteps := 2000000) (disch := omega) only [h9, Ty.cs, List.length_map, go_sem, seval, reduceCtorEq]
 rotate_left
 ·exact fin (no (fun e => congrArg (fun z : Ty => (z.fields.length : Int)) e) (of_decide_eq_false h9)) _
 refine fin ?_ _
 rw [hB]
 replace h1 := of_decide_eq_true h1
 replace h2 := of_decide_eq_true h2
 replace h3 := of_decide_eq_true h3
 replace h4 := of_decide_eq_true h4
 replace h5 := of_decide_eq_true h5
 replace h6 := of_decide_eq_true h6
 replace h7 := of_decide_eq_true h7
 replace h8 := of_decide_eq_true h8
 replace h9 := of_decide_eq_true h9
 obtain ⟨a1, a2, a3, a4, a5, a6, a7, a8, a9, a10⟩ := x
 simp only at h1 h2 h3 h4 h5 h6 h7 h8 h9
 have e7 : a7 = [] := List.eq_nil_of_length_eq_zero (by omega)
 subst h1 h2 h3 h4 h5 h6 h7 h8 e7
 simp only [bt]
 cases a8 with
 | nil => simp
 | cons p l => simp; omega

theorem findT_c {t : List Ty} (f : FuncId) (caps : List AV) (P : Nat → Prop) (hf : callOk Try.prog f = true) (ht : t.length ≤ 9000000) {H : List ABlk} (hp : ∀ i, i < t.length → ACalls Try.prog f ([(t.getD i default).av] ++ caps) H fun v H' => (∃ B, v = bv B ∧ (B = true ↔ P i)) ∧ H' = H) :
 ACalls Try.prog 135 [tv t, .fn f caps] H fun v H' => (∃ n : Int, v = iv n ∧ (0 ≤ n ↔ ∃ i, i < t.length ∧ P i)) ∧ H' = H := by
 refine ACalls.into Try.func135 cc135 rr135 fun hcl => ?_
 simp (maxSteps := 2000000) (disch := omega) only [Try.ntmps135, c135, r135, List.length_map, go_sem, seval, reduceCtorEq]
 refine W.loopG (γ := Nat) (fun i => t.length - i) (fun i => [tv t, .fn f caps, .any, .any, .any, .any, .any, iv t.length, iv i] ++ List.replicate 10 .any) (fun _ => H) (fun i => i ≤ t.length ∧ ∀ j, j < i → ¬ P j) 0 (Wk.slots (by (try simp only [List.replicate, List.cons_append, List.nil_append]); repeat' first | exact WkL.nil | refine WkL.cons (Wk1.rfl _) ?_ | refine WkL.cons Wk1.esl ?_ | refine WkL.cons (Wk1.gsl _ _ _) ?_ | refine WkL.cons (Wk1.any _) ?_)) ⟨by omega, fun j hj => by omega⟩ (fun i hi => ?_)
 obtain ⟨q1, q2⟩ := hi
 simp (maxSteps := 2000000) (disch := omega) only [c135l0, go_sem, seval, reduceCtorEq]
 refine Br.dec (fun hc => ?_) (fun hc => ?_) <;> simp (maxSteps := 2000000) (disch := omega) only [go_sem, seval, reduceCtorEq]
 ·have hia := iaA_ty (t := t) (a := i) (by omega) (by omega)
  have e : tyAt t (i : Int) = t.getD i default := rfl
  rw [e] at hia
  simp (maxSteps := 2000000) (disch := omega) only [hia, Ty.c, go_sem, seval, reduceCtorEq]
  refine ⟨hf, Cont.rel (hp i (by omega)) ?_⟩
  rintro v H' ⟨⟨B, rfl, hB⟩, rfl⟩
  cases B with
  | true =>
   simp (maxSteps := 2000000) (disch := omega) only [go_sem, seval, reduceCtorEq]
   exact Ret.keep ⟨⟨i, rfl, fun _ => ⟨i, by omega, hB.1 rfl⟩, fun _ => by omega⟩, rfl⟩
  | false =>
   simp (maxSteps := 2000000) (disch := omega) only [go_sem, seval, reduceCtorEq]
   refine Nxt.mk (i + 1) (by omega) (Wk.slots (by (try simp only [List.replicate, List.cons_append, List.nil_append]); repeat' first | exact WkL.nil | refine WkL.cons (Wk1.rfl _) ?_ | refine WkL.cons Wk1.esl ?_ | refine WkL.cons (Wk1.gsl _ _ _) ?_ | refine WkL.cons (Wk1.any _) ?_)) ⟨by omega, fun j hj => ?_⟩
   rcases Nat.lt_or_ge j i with h' | h'
   ·exact q2 j h'
   ·rw [show j = i by omega]; exact fun h => by have := hB.2 h; cases this
 ·refine Ret.keep ⟨⟨-1, rfl, fun h => by omega, fun ⟨j, h1, h2⟩ => ?_⟩, rfl⟩
  exact absurd h2 (q2 j (by omega))
theorem hasT_c {t : List Ty} (f : FuncId) (caps : List AV) (P : Nat → Prop) (hf : callOk Try.prog f = true) (ht : t.length ≤ 9000000) {H : List ABlk} (hp : ∀ i, i < t.length → ACalls Try.prog f ([(t.getD i default).av] ++ caps) H fun v H' => (∃ B, v = bv B ∧ (B = true ↔ P i)) ∧ H' = H) :
 ACalls Try.prog 120 [tv t, .fn f caps] H fun v H' => (∃ B, v = bv B ∧ (B = true ↔ ∃ i, i < t.length ∧ P i)) ∧ H' = H := by
 refine ACalls.into Try.func120 cc120 rr120 fun hcl => ?_
 simp (maxSteps := 2000000) (disch := omega) only [Try.ntmps120, c120, r120, go_sem, seval, reduceCtorEq]
 refine Cont.rel (findT_c f caps P hf ht hp) ?_
 rintro v H' ⟨⟨n, rfl, hn⟩, rfl⟩
 simp (maxSteps := 2000000) (disch := omega) only [go_sem, seval, reduceCtorEq]
 exact Ret.keep ⟨⟨_, rfl, by rw [decide_eq_true_eq]; exact hn⟩, rfl⟩
def Odd1 (t : List Ty) (i : Nat) : Prop := (t.getD i default).form = 9 ∧ ¬ ChainP t i
theorem odd1_c {t : List Ty} (ht : TBase t) {H : List ABlk} {b : Nat} (hb : H[b]? = some (.cells [tv t])) (i : Nat) (hi : i < t.length) : ACalls Try.prog 121 ([(t.getD i default).av] ++ [.ptr b 0]) H fun v H' => (∃ B, v = bv B ∧ (B = true ↔ Odd1 t i)) ∧ H' = H := by
 refine ACalls.into Try.func121 cc121 rr121 fun hcl => ?_
 have hbl := (List.getElem?_eq_some_iff.1 hb).1
 have hb' : ∀ l : List ABlk, (H ++ l)[b]? = some (.cells [tv t]) := fun l => by rw [List.getElem?_append_left hbl, hb]
 have fin : ∀ {v : Bool}, (v = true ↔ Odd1 t i) → ∀ l, Ret r121 H.length (fun v H' => (∃ B, v = bv B ∧ (B = true ↔ Odd1 t i)) ∧ H' = H) (some (bv v)) (H ++ l) := fun {v} e l => Ret.drop (bv v) H (Nat.le_refl _) hcl (.rfl _) (by simp [refs]) ⟨⟨v, rfl, e⟩, rfl⟩
 have hft := fielded_c ht (a0 := (i : Int)) (by omega)
 have e : tyAt t (i : Int) = t.getD i default := rfl
 have hO : Odd1 t i ↔ (t.getD i default).form = 9 ∧ ¬ ChainP t i := Iff.rfl
 rw [e] at hft
 generalize t.getD i default = x at *
 by_cases h9 : x.form = 9
 ·have k := decide_eq_true h9
  simp (maxSteps := 2000000) (disch := omega) only [Try.ntmps121, c121, r121, Ty.cs, k, hb', List.append_assoc, List.cons_append, List.nil_append, go_sem, seval, reduceCtorEq]
  refine Cont.rel (hft h9 _) ?_
  rintro v H' ⟨⟨B, rfl, hB⟩, rfl⟩
  simp (maxSteps := 2000000) (disch := omega) only [go_sem, seval, reduceCtorEq]
  refine fin (v := !B) ?_ _
  rw [hO, ← hB]
  cases B <;> simp [h9]
 ·have k := decide_eq_false h9
  simp (maxSteps := 2000000) (disch := omega) only [Try.ntmps121, c121, r121, Ty.cs, k, hb', List.append_assoc, List.cons_append, List.nil_append, go_sem, seval, reduceCtorEq]
  exact fin (v := false) (by rw [hO]; simp [h9]) _
end Go.Proofs.Ythifjndenhjobaa
