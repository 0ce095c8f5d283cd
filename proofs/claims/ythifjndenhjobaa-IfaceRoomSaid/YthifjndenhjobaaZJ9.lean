/- All visits there are; the basic types in a slice that will be written; a copy of the uses. -/
import Derived.Test.YthifjndenhjobaaZJ7
import Derived.Test.YthifjndenhjobaaZCodeH
import Derived.Test.YthifjndenhjobaaZI5
namespace Go.Proofs.Ythifjndenhjobaa
set_option linter.unusedSimpArgs false
set_option linter.unusedVariables false
set_option maxRecDepth 20000
set_option maxHeartbeats 4000000
open Go.RowKit

theorem vis_ex {t : List Ty} (hg : GoodP t) : ∀ (n : Nat) (o l : List Int), t.length ≤ n + 7 + o.length → (∀ a ∈ o, 7 ≤ a ∧ a < t.length) → o.Nodup → (∀ a ∈ l, 0 ≤ a ∧ a < t.length) → ∃ o', Vis (kidsV t) o l o' := by
 intro n
 induction n with
 | zero =>
  intro o l hn ho hd hl
  have hfull : ∀ a : Int, 7 ≤ a → a < t.length → a ∈ o := fun a h7 hb => by
   by_cases hm : a ∈ o
   ·exact hm
   ·have hd2 : (o ++ [a]).Nodup := by
     rw [List.nodup_append]
     refine ⟨hd, by simp, fun x hx y hy => ?_⟩
     rw [List.mem_singleton] at hy
     subst hy
     exact fun e => hm (e ▸ hx)
    have := nodup_len hd2 (n := t.length) fun x hx => by
     rcases List.mem_append.1 hx with hx | hx
     ·exact ho x hx
     ·rw [List.mem_singleton.1 hx]; exact ⟨h7, hb⟩
    rw [List.length_append, List.length_singleton] at this
    have := hg.len
    omega
  induction l with
  | nil => exact ⟨o, .nil⟩
  | cons a l ih =>
   have ha := hl a List.mem_cons_self
   obtain ⟨o', h⟩ := ih fun b hb => hl b (List.mem_cons_of_mem _ hb)
   refine ⟨o', .skip ?_ h⟩
   by_cases h7 : a < 7
   ·exact .inl h7
   ·exact .inr (hfull a (by omega) ha.2)
 | succ n ih =>
  intro o l hn ho hd hl
  induction l with
  | nil => exact ⟨o, .nil⟩
  | cons a l ihl =>
   have ha := hl a List.mem_cons_self
   by_cases h7 : a < 7 ∨ a ∈ o
   ·obtain ⟨o', h⟩ := ihl fun b hb => hl b (List.mem_cons_of_mem _ hb)
    exact ⟨o', .skip h7 h⟩
   ·have h8 : 7 ≤ a ∧ a ∉ o := ⟨by omega, fun e => h7 (.inr e)⟩
    have ho2 : ∀ x ∈ o ++ [a], 7 ≤ x ∧ x < t.length := fun x hx => by
     rcases List.mem_append.1 hx with hx | hx
     ·exact ho x hx
     ·rw [List.mem_singleton.1 hx]; exact ⟨h8.1, ha.2⟩
    have hd2 : (o ++ [a]).Nodup := by
     rw [List.nodup_append]
     refine ⟨hd, by simp, fun x hx y hy => ?_⟩
     rw [List.mem_singleton] at hy
     subst hy
     exact fun e => h8.2 (e ▸ hx)
    obtain ⟨o1, h1⟩ := ih (o ++ [a]) (kidsV t a) (by rw [List.length_append, List.length_singleton]; omega) ho2 hd2 fun k hk => hg.kidV ha.1 ha.2 hk
    have ho1 : ∀ x ∈ o1, 7 ≤ x ∧ x < t.length := fun x hx =>
     ⟨h1.ge (fun b hb => (ho2 b hb).1) x hx, h1.all (P := fun b => b < t.length) (fun b b7 bl k hk _ => (hg.kidV (by omega) bl hk).2) (fun b hb => (ho2 b hb).2) (fun b hb _ => (hg.kidV ha.1 ha.2 hb).2) x hx⟩
    have hl1 := h1.pre.length_le
    rw [List.length_append, List.length_singleton] at hl1
    obtain ⟨o2, h2⟩ := ih o1 l (by omega) ho1 (h1.nodup hd2) fun b hb => hl b (List.mem_cons_of_mem _ hb)
    exact ⟨o2, .go h8.1 h8.2 h1 h2⟩
theorem visits {f : Fc} (hg : GoodP f.types) (hs : Small f.types) {l o' : List Int} (h : Vis (kidsV f.types) [] l o') (hl : ∀ a ∈ l, 0 ≤ a ∧ a < f.types.length) : VCs f [] l o' :=
 vcs_of hg (fun h1 h2 h3 h4 h5 h6 h7 => body_c hg hs h1 h2 h3 h4 h5 h6 h7) h hl (fun x hx => by cases hx) List.nodup_nil

def bsA (n : Nat) : Nat → AV
 | 0 => .esl
 | i + 1 => .hsl (n + i) 0 (i + 1) (i + 1) 10
def bsH (H : List ABlk) : Nat → List ABlk
 | 0 => H
 | i + 1 => H ++ (List.replicate i .dead ++ [.cells (tyC ((basicL.take (i + 1)).map some))])
theorem basic_h (H : List ABlk) : ACalls Try.prog 40 [] H fun v H' => v = .hsl (H.length + 6) 0 7 7 10 ∧ H' = H ++ (List.replicate 6 .dead ++ [.cells (tyC (basicL.map some))]) := by
 refine ACalls.into Try.func40 cc40h rr40h fun hcl => ?_
 have mx : maxLen = 9223372036854775807 := mx_eq
 simp (maxSteps := 2000000) (disch := omega) only [Try.ntmps40, c40h, r40h, go_sem, seval, reduceCtorEq]
 obtain ⟨S, hS⟩ : ∃ S : Nat → List AV, ∀ i, S i = [.any, bsA H.length i, iv i] ++ List.replicate 10 .any := ⟨_, fun _ => rfl⟩
 refine W.loopG (γ := Nat) (fun i => 7 - i) S (bsH H) (fun i => i ≤ 7) 0 (Wk.slots (by rw [hS]; exact WkL.tail 3 _ rfl (by simp only [List.take_succ_cons, List.take_zero]; repeat' first | exact WkL.nil | refine WkL.cons (Wk1.rfl _) ?_ | refine WkL.cons Wk1.esl ?_ | refine WkL.cons (Wk1.gsl _ _ _) ?_ | refine WkL.cons (Wk1.any _) ?_))) (by omega) (fun i hi => ?_)
 by_cases hi6 : (i : Int) ≤ 6
 rotate_left
 ·simp (maxSteps := 2000000) (disch := omega) only [c40hl0, hS, go_sem, seval, reduceCtorEq]
  have e7 : i = 7 := by omega
  subst e7
  exact Ret.keep ⟨rfl, rfl⟩
 have hc : ∀ j, j < 7 → tyC ((basicL.take (j + 1)).map some) = tyC ((basicL.take j).map some) ++ (bt j).cs := fun j hj => by
  rw [getD_take (d := default) (show j < basicL.length from hj), basic_at hj, List.map_append, tyC_app]; rfl
 have hz : (bt i).cs = [iv i, sv se, sv se, iv 0, iv 0, iv 0, .d (.sl []), .d (.sl []), iv 0, iv 0] := rfl
 cases i with
 | zero =>
  simp (maxSteps := 2000000) (disch := omega) only [c40hl0, hS, bsA, bsH, go_sem, seval, reduceCtorEq]
  exact Nxt.mk 1 (by omega) (by rw [hS]; exact Wk.slots (WkL.tail 3 _ rfl (by simp only [List.take_succ_cons, List.take_zero]; repeat' first | exact WkL.nil | refine WkL.cons (Wk1.rfl _) ?_ | refine WkL.cons Wk1.esl ?_ | refine WkL.cons (Wk1.gsl _ _ _) ?_ | refine WkL.cons (Wk1.any _) ?_))) (by omega)
 | succ j =>
  have hl := tyC_len ((basicL.take (j + 1)).map some)
  rw [List.length_map, List.length_take, show min (j + 1) basicL.length = j + 1 by show min (j + 1) 7 = _; omega] at hl
  have htk : (tyC ((basicL.take (j + 1)).map some)).take ((j + 1) * 10) = tyC ((basicL.take (j + 1)).map some) := List.take_of_length_le (by omega)
  have b1 : (bsH H (j + 1))[H.length + j]? = some (.cells (tyC ((basicL.take (j + 1)).map some))) := by
   rw [bsH, List.getElem?_append_right (by omega), List.getElem?_append_right (by simp)]; simp
  have b3 : (bsH H (j + 1)).length = H.length + j + 1 := by simp [bsH]; omega
  have b2 : (bsH H (j + 1)).set (H.length + j) .dead ++ [.cells (tyC ((basicL.take (j + 1)).map some) ++ [iv ((j + 1 : Nat) : Int), sv se, sv se, iv 0, iv 0, iv 0, .d (.sl []), .d (.sl []), iv 0, iv 0])] = bsH H (j + 2) := by
   rw [← hz, ← hc (j + 1) (by omega), bsH, bsH, List.set_append_right _ _ (by omega), List.set_append_right _ _ (by simp), show H.length + j - H.length = j by omega, List.length_replicate, Nat.sub_self, List.replicate_succ']
   simp
  simp (maxSteps := 2000000) (disch := omega) only [c40hl0, hS, bsA, b1, hl, htk, b3, b2, go_sem, seval, reduceCtorEq]
  exact Nxt.mk (j + 2) (by omega) (by rw [hS]; exact Wk.slots (WkL.tail 3 _ rfl (by simp only [List.take_succ_cons, List.take_zero]; repeat' first | exact WkL.nil | refine WkL.cons (Wk1.rfl _) ?_ | refine WkL.cons Wk1.esl ?_ | refine WkL.cons (Wk1.gsl _ _ _) ?_ | refine WkL.cons (Wk1.any _) ?_))) (by omega)
theorem uclone_c {l : List Us} (hl : l.length ≤ 9000000) (H : List ABlk) : ACalls Try.prog 41 [usv l] H fun v H' => v = usv l ∧ H' = H := by
 refine ACalls.into Try.func41 cc41 rr41 fun hcl => ?_
 have e1 : ∀ H, elemsA H 2 (usv l) = some ((l.map Us.c).map (·.map .d)) := fun H => by simp only [usv, elems_d, all_us, if_true]
 have d1 := datss_map_d (l.map Us.c)
 have mx : maxLen = 9223372036854775807 := mx_eq
 by_cases h : 0 < l.length
 ·have n1 : nilA false false (usv l) = some (bv false) := by
   cases l with
   | nil => cases h
   | cons f l => rfl
  simp (maxSteps := 2000000) (disch := omega) only [Try.ntmps41, c41, r41, n1, e1, d1, List.length_map, go_sem, seval, reduceCtorEq]
  exact Ret.drop _ H (Nat.le_refl _) hcl (.gsl _ _ _) (by simp [refs]) ⟨rfl, rfl⟩
 ·have h0 : l = [] := List.eq_nil_of_length_eq_zero (by omega)
  subst h0
  have n1 : nilA false false (usv []) = some .ub := rfl
  simp (maxSteps := 2000000) (disch := omega) only [Try.ntmps41, c41, r41, n1, List.length_nil, List.map_nil, go_sem, seval, reduceCtorEq]
  refine CBr.ub ?_ ?_
  ·simp (maxSteps := 2000000) (disch := omega) only [go_sem, seval, reduceCtorEq]
   exact Ret.pre _ H ⟨[], by simp⟩ (Nat.le_refl _) hcl .esl (by simp [refs]) ⟨rfl, rfl⟩
  ·simp only [List.length_nil, List.map_nil] at e1 d1
   simp (maxSteps := 2000000) (disch := omega) only [e1, d1, List.length_nil, List.map_nil, go_sem, seval, reduceCtorEq]
   exact Ret.drop _ H (Nat.le_refl _) hcl (.gsl _ _ _) (by simp [refs]) ⟨rfl, rfl⟩
end Go.Proofs.Ythifjndenhjobaa

/- The trimmed interface fits; what Trim tells. -/
namespace Go.Proofs.Ythifjndenhjobaa
set_option linter.unusedSimpArgs false
set_option linter.unusedVariables false
open Go.RowKit

theorem newT_all {P : Ty → Prop} {nm : ByteArray} {t : List Ty} {o : List Int} (h1 : ∀ i : Nat, i < 7 → P (bt i)) (h2 : ∀ k, k < o.length → P (ntF nm t o k)) : ∀ x ∈ newT nm t o, P x := fun x hx => by
 rw [newT, List.mem_append] at hx
 rcases hx with hx | hx
 ·obtain ⟨i, hi, rfl⟩ := List.getElem_of_mem hx
  have hi7 : i < 7 := hi
  rcases (by omega : i = 0 ∨ i = 1 ∨ i = 2 ∨ i = 3 ∨ i = 4 ∨ i = 5 ∨ i = 6) with rfl | rfl | rfl | rfl | rfl | rfl | rfl <;> exact h1 _ hi7
 ·obtain ⟨k, hk, rfl⟩ := List.mem_map.1 hx
  exact h2 k (List.mem_range.1 hk)
theorem bt_small (i : Nat) : (bt i).fields = [] ∧ (bt i).params = [] ∧ (bt i).name = se ∧ (bt i).mod = se := ⟨rfl, rfl, rfl, rfl⟩
section
variable {f : Fc} {o : List Int} (ho : Ord f.types o)
include ho
theorem Ord.at_mem {k : Nat} (hk : k < o.length) : tyAt f.types (o.getD k 0) ∈ f.types := by
 have := ho.rng _ (mem_getD hk)
 exact tyAt_mem (by omega) this.2
theorem small_trim (hl : f.types.length ≤ 256) (hs : Small f.types) : Small (newT f.name f.types o) := by
 refine ⟨by rw [newT_len]; have := nodup_len ho.nd ho.rng; omega, newT_all (fun i _ => by simp [bt_small]; decide) fun k hk => ?_⟩
 have := hs.2 _ (ho.at_mem hk)
 simp only [ntF, trnT, List.length_map]
 exact this
theorem fin_trim (hl : f.types.length ≤ 256) (hs : Small f.types) (hf : FIn f) : FIn (trimF f o) := by
 have hsm := small_trim ho hl hs
 refine ⟨hf.nm, hf.us, by rw [trimF, List.length_map]; exact hf.os, ⟨by have := hsm.1; simp only [trimF]; omega, ?_⟩, ?_, fun x hx => ?_, hf.un⟩
 ·intro x hx
  have h := hsm.2 x hx
  exact ⟨by omega, by omega, by omega, by omega⟩
 ·refine newT_all (fun i _ y hy => ?_) fun k hk y hy => ?_
  ·rw [(bt_small i).1] at hy; cases hy
  ·simp only [ntF, trnT] at hy
   obtain ⟨z, hz, rfl⟩ := List.mem_map.1 hy
   exact hf.fn _ (ho.at_mem hk) z hz
 ·simp only [trimF] at hx
  obtain ⟨y, hy, rfl⟩ := List.mem_map.1 hx
  have h := hf.ob y hy
  refine ⟨h.1, ?_, h.2.2.1, h.2.2.2⟩
  show J64 (pl o y.typ)
  have := nodup_len ho.nd ho.rng
  have := List.idxOf_le_length (a := y.typ) (l := o)
  have h2 := h.2.1
  unfold J64 at h2 ⊢
  rw [pl]
  split <;> omega
end
def zeF : Fc := ⟨se, 0, [], [], []⟩
open Classical in
noncomputable def ordF (f : Fc) : List Int := if h : ∃ o, Vis (kidsV f.types) [] (startL f) o then h.choose else []
open Classical in
noncomputable def trimV (f : Fc) : Fc × Int := if FrameP f ∧ ownN f (ordF f) ≤ 64 then (trimF f (ordF f), 0) else (zeF, 160)
theorem ordF_vis {f : Fc} (hf : FrameP f) : Vis (kidsV f.types) [] (startL f) (ordF f) := by
 have h : ∃ o, Vis (kidsV f.types) [] (startL f) o := by
  refine vis_ex hf.ty f.types.length [] _ (by omega) (fun a h => by cases h) List.nodup_nil fun a ha => ?_
  obtain ⟨x, hx, rfl⟩ := List.mem_map.1 ha
  exact ⟨(hf.ob x hx).2.1.1, (hf.ob x hx).2.1.2⟩
 rw [ordF, dif_pos h]; exact h.choose_spec
theorem ordF_eq {f : Fc} {o : List Int} (h : Vis (kidsV f.types) [] (startL f) o) : ordF f = o := by
 have h' : ∃ o, Vis (kidsV f.types) [] (startL f) o := ⟨o, h⟩
 rw [ordF, dif_pos h']; exact h'.choose_spec.det h
theorem trimV_no {f : Fc} (h : ¬ FrameP f) : trimV f = (zeF, 160) := by rw [trimV, if_neg fun k => h k.1]
theorem trimV_ok {f : Fc} (hf : FrameP f) (h : FaceP (trimF f (ordF f))) : trimV f = (trimF f (ordF f), 0) := by
 rw [trimV, if_pos ⟨hf, (hf.trim_iff (ordF_vis hf)).1 h⟩]
theorem trimV_many {f : Fc} (hf : FrameP f) (h : ¬ FaceP (trimF f (ordF f))) : trimV f = (zeF, 160) := by
 rw [trimV, if_neg fun k => h ((hf.trim_iff (ordF_vis hf)).2 k.2)]
end Go.Proofs.Ythifjndenhjobaa
