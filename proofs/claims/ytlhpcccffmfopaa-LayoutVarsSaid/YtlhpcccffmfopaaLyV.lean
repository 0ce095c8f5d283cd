/- The arguments of the rows. -/
import Derived.Test.YtlhpcccffmfopaaRead
import Derived.Test.YtlhpcccffmfopaaP3
import Derived.Test.YtlhpcccffmfopaaLyB
import Derived.Test.YtlhpcccffmfopaaRows
namespace Go.Proofs.Ytlhpcccffmfopaa
set_option linter.unusedVariables false
set_option linter.unusedSimpArgs false
set_option linter.unusedSectionVars false
open Go.ChangeShapes Go.WideShapes Go.ChangeAt Go.RowKit
theorem Try.laidOut : laidOutB Try.prog = true := by kernel_rfl
theorem Try.own : ownKnob Try.prog.godebug = none := by kernel_rfl
def argL : List TypeId := [22, 32, 29, 48, 30, 36, 3, 9, 4, 42]
theorem argL_ok : dataB Try.prog argL = true := by kernel_rfl
abbrev I64 (n : Int) : Prop := -9223372036854775808 ≤ n ∧ n < 9223372036854775808
theorem read_list {α : Type} [Inhabited α] (f : α → List Dat) (Ok : α → Prop) {es : List (List Dat)} (h : ∀ c ∈ es, ∃ s, c = f s ∧ Ok s) : ∃ l : List α, es = l.map f ∧ ∀ s ∈ l, Ok s := by
  have key : ∀ c : List Dat, ∃ s : α, c ∈ es → c = f s ∧ Ok s := fun c => by
    by_cases hc : c ∈ es
    · obtain ⟨s, e, hs⟩ := h c hc
      exact ⟨s, fun _ => ⟨e, hs⟩⟩
    · exact ⟨default, fun h => absurd h hc⟩
  obtain ⟨F, hF⟩ := Classical.axiomOfChoice key
  refine ⟨es.map F, ?_, fun x hx => ?_⟩
  · rw [List.map_map]
    symm
    conv => rhs; rw [← List.map_id es]
    exact List.map_congr_left fun c hc => ((hF c hc).1).symm
  · obtain ⟨c, hc, rfl⟩ := List.mem_map.1 hx
    exact (hF c hc).2
def Fd.In (f : Fd) : Prop := f.name.size ≤ 140737488355328 ∧ I64 f.typ
def Pm.In (p : Pm) : Prop := I64 p.typ
structure Ty.In (x : Ty) : Prop where
  ok : x.Ok
  form : I64 x.form
  len : I64 x.len
  elem : I64 x.elem
  base : I64 x.base
  result : I64 x.result
  desc : I64 x.desc
  fd : ∀ f ∈ x.fields, f.In
  pm : ∀ p ∈ x.params, p.In
theorem read_fd {c : List Dat} (h : TyD Try.prog 48 c) : ∃ s : Fd, c = s.c ∧ s.In := by
  obtain ⟨parts, rfl, hl, hp⟩ := h.st_inv Try.underlying48
  match parts, hl with
  | [p0, p1, p2], _ =>
    obtain ⟨n0, rfl, h0⟩ := (hp 0 _ _ rfl rfl).str_inv Try.underlying9
    obtain ⟨n1, rfl⟩ := (hp 1 _ _ rfl rfl).bool_inv Try.underlying4
    obtain ⟨n2, rfl, h2⟩ := (hp 2 _ _ rfl rfl).int_inv Try.underlying3
    exact ⟨⟨n0, n1, n2⟩, rfl, h0, wf_i64 h2⟩
theorem read_pm {c : List Dat} (h : TyD Try.prog 36 c) : ∃ s : Pm, c = s.c ∧ s.In := by
  obtain ⟨parts, rfl, hl, hp⟩ := h.st_inv Try.underlying36
  match parts, hl with
  | [p0, p1], _ =>
    obtain ⟨n0, rfl⟩ := (hp 0 _ _ rfl rfl).bool_inv Try.underlying4
    obtain ⟨n1, rfl, h1⟩ := (hp 1 _ _ rfl rfl).int_inv Try.underlying3
    exact ⟨⟨n0, n1⟩, rfl, wf_i64 h1⟩
theorem len_le {n e : Nat} (hb : 1 ≤ Try.prog.bytesOf e) (h : n * Try.prog.bytesOf e ≤ 140737488355328) : n ≤ 140737488355328 := Nat.le_trans (Nat.le_mul_of_pos_right n hb) h
theorem b48 : 1 ≤ Try.prog.bytesOf 48 := of_decide_eq_true (by kernel_rfl)
theorem b36 : 1 ≤ Try.prog.bytesOf 36 := of_decide_eq_true (by kernel_rfl)
theorem b32 : 1 ≤ Try.prog.bytesOf 32 := of_decide_eq_true (by kernel_rfl)
theorem read_ty1 {c : List Dat} (h : TyD Try.prog 32 c) : ∃ s : Ty, c = s.c ∧ s.In := by
  obtain ⟨parts, rfl, hl, hp⟩ := h.st_inv Try.underlying32
  match parts, hl with
  | [p0, p1, p2, p3, p4, p5, p6, p7, p8, p9], _ =>
    obtain ⟨n0, rfl, h0⟩ := (hp 0 _ _ rfl rfl).int_inv Try.underlying3
    obtain ⟨n1, rfl, h1⟩ := (hp 1 _ _ rfl rfl).str_inv Try.underlying9
    obtain ⟨n2, rfl, h2⟩ := (hp 2 _ _ rfl rfl).str_inv Try.underlying9
    obtain ⟨n3, rfl, h3⟩ := (hp 3 _ _ rfl rfl).int_inv Try.underlying3
    obtain ⟨n4, rfl, h4⟩ := (hp 4 _ _ rfl rfl).int_inv Try.underlying3
    obtain ⟨n5, rfl, h5⟩ := (hp 5 _ _ rfl rfl).int_inv Try.underlying3
    obtain ⟨n6, rfl, ⟨_, h6⟩, g6⟩ := (hp 6 _ _ rfl rfl).sl_inv Try.underlying29
    obtain ⟨n7, rfl, ⟨_, h7⟩, g7⟩ := (hp 7 _ _ rfl rfl).sl_inv Try.underlying30
    obtain ⟨n8, rfl, h8⟩ := (hp 8 _ _ rfl rfl).int_inv Try.underlying3
    obtain ⟨n9, rfl, h9⟩ := (hp 9 _ _ rfl rfl).int_inv Try.underlying3
    obtain ⟨fl, rfl, gf⟩ := read_list Fd.c Fd.In fun c hc => read_fd (g6 c hc)
    obtain ⟨pl, rfl, gp⟩ := read_list Pm.c Pm.In fun c hc => read_pm (g7 c hc)
    rw [List.length_map] at h6 h7
    exact ⟨⟨n0, n1, n2, n3, n4, n5, fl, pl, n8, n9⟩, rfl, ⟨len_le b48 h6, len_le b36 h7, h1, h2⟩, wf_i64 h0, wf_i64 h3, wf_i64 h4, wf_i64 h5, wf_i64 h8, wf_i64 h9, gf, gp⟩
theorem read_tab {a : AV} (h : ArgD Try.prog 22 a) : ∃ t : List Ty, a = tv t ∧ TOk t ∧ FNames t ∧ ∀ x ∈ t, x.In := by
  obtain ⟨es, rfl, hl, he⟩ := h.sl Try.underlying22
  obtain ⟨t, rfl, ht⟩ := read_list Ty.c Ty.In fun c hc => read_ty1 (he c hc)
  have h1 := hl.2
  rw [List.length_map] at h1
  exact ⟨t, rfl, ⟨len_le b32 h1, fun x hx => (ht x hx).ok⟩, fun x hx f hf => ((ht x hx).fd f hf).1, ht⟩
end Go.Proofs.Ytlhpcccffmfopaa

/- LayoutVars, of any argument. -/
namespace Go.Proofs.Ytlhpcccffmfopaa
open Go.ChangeShapes Go.WideShapes Go.ChangeAt Go.RowKit
theorem layoutVars_any {a0 a1 : AV} (h0 : ArgD Try.prog 22 a0) (h1 : ArgD Try.prog 42 a1) (v0 v1 : Value) (W : World) (hv : VRs ⟨W.cell?, fun _ _ => none⟩ [a0, a1] [v0, v1]) :
    Calls Try.prog 9 #[v0, v1] W fun e w' => e = .returned (.bool true) ∧ Below W.heap.size W w' := by
  obtain ⟨t, rfl, g1, g2, _⟩ := read_tab h0
  obtain ⟨es, rfl, hl, he⟩ := h1.sl Try.underlying42
  obtain ⟨l, rfl, _⟩ := read_list kd (fun _ => True) fun c hc => by
    obtain ⟨n, rfl, _⟩ := (he c hc).int_inv Try.underlying3
    exact ⟨n, rfl, trivial⟩
  have h2 := hl.2
  rw [List.length_map] at h2
  have b3 : 1 ≤ Try.prog.bytesOf 3 := of_decide_eq_true (by kernel_rfl)
  exact (LayoutVars_c g1 g2 (len_le b3 h2) []).law (fun a v h => h) hv
end Go.Proofs.Ytlhpcccffmfopaa

/- The row LayoutVars, proved. -/
namespace Go.Proofs.Ytlhpcccffmfopaa
open Go.ChangeShapes Go.WideShapes Go.ChangeAt Go.RowKit

set_option maxRecDepth 100000 in
theorem layoutVars_lifted (os : Os) (started : os.Started) (H : Type) (enc : TypeId × Value → H) :
    ReturnsInHanded {} Try.checked os 9 .any (Rows.layoutVarsSpec.pre6 enc Try.prog Try.f9 Rows.layoutVarsRow.domain false) (Rows.layoutVarsSpec.post enc Try.prog Try.f9 false true false false) := by
  refine returnsInHanded_of_change_sized (C := Try.checked) Try.own started (by kernel_rfl) Try.func9
    (ChangeSpec.witness6 (enc := enc) (C := Try.checked) false ⟨#[], #[.slice none 0 0, .slice none 0 0], []⟩ 8 (by kernel_rfl) (by kernel_rfl) (by kernel_rfl) (by kernel_rfl)) ?_
  intro W base args ds gs before hval0 hW hcnd hsz _
  have hval : ∀ (j : Nat) t v, Try.f9.params[j]? = some t → args[j]? = some v → Value.okWide Try.prog W .any base t v := hval0
  have hW' := hW
  obtain ⟨p, q, hA0, hV, rfl, hfz, hnd⟩ := hW
  have hA : DataW.TrodAll enc Try.prog W 0 (fun _ => true) true Try.f9.params.toList args.toList ds p := hA0
  rw [Try.params9] at hA hval hsz
  obtain ⟨v0, v1, d0, d1, p0, p1, rfl, rfl, rfl, h0, h1⟩ := trodAll_two hA
  obtain ⟨rfl, rfl⟩ := trodVars_none hV
  obtain ⟨a0, ha0, hr0⟩ := read_val argL_ok (by decide) (hval 0 22 v0 rfl rfl) h0 (fun n hn => of_decide_eq_true (List.all_eq_true.1 hsz n (DataW.weights_mem_each (j := 0) rfl rfl n hn)))
  obtain ⟨a1, ha1, hr1⟩ := read_val argL_ok (by decide) (hval 1 42 v1 rfl rfl) h1 (fun n hn => of_decide_eq_true (List.all_eq_true.1 hsz n (DataW.weights_mem_each (j := 1) rfl rfl n hn)))
  clear hA0 hval0
  simp only [List.append_nil] at hW'
  have hlt := hW'.lt
  refine (layoutVars_any ha0 ha1 v0 v1 W (.cons hr0 (.cons hr1 .nil))).mono fun e W' ⟨he, hw⟩ => ?_
  subst he
  exact ⟨_, rfl, post_of_below (pa := p0 ++ p1) (pv := []) hW' (fun _ _ _ => trodAll_mk1 (shut_bool Try.underlying4 _)) (fun sp hsp => trodAll_mk2 (WideElems.Trod_stays Try.laidOut (by kernel_rfl) (of_decide_eq_true (by kernel_rfl)) h0 (fun x hx => hw.same (hlt x (by simp [hx]))) (fun x hx => hsp x (by simp [hx]))) (WideElems.Trod_stays Try.laidOut (by kernel_rfl) (of_decide_eq_true (by kernel_rfl)) h1 (fun x hx => hw.same (hlt x (by simp [hx]))) (fun x hx => hsp x (by simp [hx])))) (fun _ _ => rfl) (by simp)
    hw (ok_one (by kernel_rfl) rfl (okWide_bool_mk Try.underlying4 _))⟩

theorem layoutVars_holds : Rows.LayoutVarsSaid :=
  OpenClaim.holds_of_wide 9 Try.f9 rfl rfl rfl rfl rfl rfl rfl ⟨rfl, rfl, rfl, rfl, rfl⟩ rfl rfl rfl rfl rfl (by kernel_rfl) Try.func9 (by kernel_rfl)
    (of_decide_eq_true (by kernel_rfl)) (by unfold Func.isWrapper; first | (rw [if_pos (by decide +kernel)]; kernel_rfl) | (rw [if_neg (by decide +kernel)]; exact ⟨rfl, rfl⟩))
    (fun os started H enc _ => layoutVars_lifted os started H enc)
end Go.Proofs.Ytlhpcccffmfopaa
