/- The arguments of the rows. -/
import Derived.Test.YthifjndenhjobaaYRead
import Derived.Test.YthifjndenhjobaaYI5
import Derived.Test.YthifjndenhjobaaYS8
import Derived.Test.YthifjndenhjobaaRows
namespace Go.Proofs.Ythifjndenhjobaa
set_option linter.unusedVariables false
set_option linter.unusedSimpArgs false
open Go.ChangeShapes Go.WideShapes Go.ChangeAt Go.RowKit
theorem Try.laidOut : laidOutB Try.prog = true := by kernel_rfl
theorem Try.own : ownKnob Try.prog.godebug = none := by kernel_rfl
def argL : List TypeId := [27, 23, 24, 25, 65, 49, 34, 32, 46, 47, 83, 85, 3, 9, 4, 22, 5]
theorem argL_ok : dataB Try.prog argL = true := by kernel_rfl
theorem read_list {α : Type} [Inhabited α] (f : α → List Dat) (Ok : α → Prop) {es : List (List Dat)} (h : ∀ c ∈ es, ∃ s, c = f s ∧ Ok s) : ∃ l : List α, es = l.map f ∧ ∀ s ∈ l, Ok s := by
 have key : ∀ c : List Dat, ∃ s : α, c ∈ es → c = f s ∧ Ok s := fun c => by
  by_cases hc : c ∈ es
  ·obtain ⟨s, e, hs⟩ := h c hc
   exact ⟨s, fun _ => ⟨e, hs⟩⟩
  ·exact ⟨default, fun h => absurd h hc⟩
 obtain ⟨F, hF⟩ := Classical.axiomOfChoice key
 refine ⟨es.map F, ?_, fun x hx => ?_⟩
 ·rw [List.map_map]
  symm
  conv => rhs; rw [← List.map_id es]
  exact List.map_congr_left fun c hc => ((hF c hc).1).symm
 ·obtain ⟨c, hc, rfl⟩ := List.mem_map.1 hx
  exact (hF c hc).2
def Fd.In (f : Fd) : Prop := f.name.size ≤ 140737488355328 ∧ J64 f.typ
def Pm.In (p : Pm) : Prop := J64 p.typ
structure Ty.In (x : Ty) : Prop where
 ok : x.Ok
 fd : ∀ f ∈ x.fields, f.In
 pm : ∀ p ∈ x.params, p.In
theorem read_fd {c : List Dat} (h : TyD Try.prog 83 c) : ∃ s : Fd, c = s.c ∧ s.In := by
 obtain ⟨parts, rfl, hl, hp⟩ := h.st_inv Try.underlying83
 match parts, hl with
 | [p0, p1, p2], _ =>
  obtain ⟨n0, rfl, h0⟩ := (hp 0 _ _ rfl rfl).str_inv Try.underlying9
  obtain ⟨n1, rfl⟩ := (hp 1 _ _ rfl rfl).bool_inv Try.underlying4
  obtain ⟨n2, rfl, h2⟩ := (hp 2 _ _ rfl rfl).int_inv Try.underlying3
  exact ⟨⟨n0, n1, n2⟩, rfl, h0, wf_i64 h2⟩
theorem read_pm {c : List Dat} (h : TyD Try.prog 85 c) : ∃ s : Pm, c = s.c ∧ s.In := by
 obtain ⟨parts, rfl, hl, hp⟩ := h.st_inv Try.underlying85
 match parts, hl with
 | [p0, p1], _ =>
  obtain ⟨n0, rfl⟩ := (hp 0 _ _ rfl rfl).bool_inv Try.underlying4
  obtain ⟨n1, rfl, h1⟩ := (hp 1 _ _ rfl rfl).int_inv Try.underlying3
  exact ⟨⟨n0, n1⟩, rfl, wf_i64 h1⟩
theorem len_le {n e : Nat} (hb : 1 ≤ Try.prog.bytesOf e) (h : n * Try.prog.bytesOf e ≤ 140737488355328) : n ≤ 140737488355328 := Nat.le_trans (Nat.le_mul_of_pos_right n hb) h
theorem by_fd : 1 ≤ Try.prog.bytesOf 83 := of_decide_eq_true (by kernel_rfl)
theorem by_pm : 1 ≤ Try.prog.bytesOf 85 := of_decide_eq_true (by kernel_rfl)
theorem by_ty : 1 ≤ Try.prog.bytesOf 49 := of_decide_eq_true (by kernel_rfl)
theorem by_us : 1 ≤ Try.prog.bytesOf 65 := of_decide_eq_true (by kernel_rfl)
theorem by_ob : 1 ≤ Try.prog.bytesOf 34 := of_decide_eq_true (by kernel_rfl)
theorem read_ty1 {c : List Dat} (h : TyD Try.prog 49 c) : ∃ s : Ty, c = s.c ∧ s.In := by
 obtain ⟨parts, rfl, hl, hp⟩ := h.st_inv Try.underlying49
 match parts, hl with
 | [p0, p1, p2, p3, p4, p5, p6, p7, p8, p9], _ =>
  obtain ⟨n0, rfl, h0⟩ := (hp 0 _ _ rfl rfl).int_inv Try.underlying3
  obtain ⟨n1, rfl, h1⟩ := (hp 1 _ _ rfl rfl).str_inv Try.underlying9
  obtain ⟨n2, rfl, h2⟩ := (hp 2 _ _ rfl rfl).str_inv Try.underlying9
  obtain ⟨n3, rfl, h3⟩ := (hp 3 _ _ rfl rfl).int_inv Try.underlying3
  obtain ⟨n4, rfl, h4⟩ := (hp 4 _ _ rfl rfl).int_inv Try.underlying3
  obtain ⟨n5, rfl, h5⟩ := (hp 5 _ _ rfl rfl).int_inv Try.underlying3
  obtain ⟨n6, rfl, ⟨_, h6⟩, g6⟩ := (hp 6 _ _ rfl rfl).sl_inv Try.underlying46
  obtain ⟨n7, rfl, ⟨_, h7⟩, g7⟩ := (hp 7 _ _ rfl rfl).sl_inv Try.underlying47
  obtain ⟨n8, rfl, h8⟩ := (hp 8 _ _ rfl rfl).int_inv Try.underlying3
  obtain ⟨n9, rfl, h9⟩ := (hp 9 _ _ rfl rfl).int_inv Try.underlying3
  obtain ⟨fl, rfl, gf⟩ := read_list Fd.c Fd.In fun c hc => read_fd (g6 c hc)
  obtain ⟨pl, rfl, gp⟩ := read_list Pm.c Pm.In fun c hc => read_pm (g7 c hc)
  rw [List.length_map] at h6 h7
  exact ⟨⟨n0, n1, n2, n3, n4, n5, fl, pl, n8, n9⟩, rfl, ⟨len_le by_fd h6, len_le by_pm h7, h1, h2⟩, gf, gp⟩
theorem read_us {c : List Dat} (h : TyD Try.prog 65 c) : ∃ s : Us, c = s.c ∧ s.name.size ≤ 140737488355328 ∧ 0 ≤ s.key ∧ s.key < 4294967296 := by
 obtain ⟨parts, rfl, hl, hp⟩ := h.st_inv Try.underlying65
 match parts, hl with
 | [p0, p1], _ =>
  obtain ⟨n0, rfl, h0⟩ := (hp 0 _ _ rfl rfl).str_inv Try.underlying9
  obtain ⟨n1, rfl, h1⟩ := (hp 1 _ _ rfl rfl).int_inv Try.underlying22
  exact ⟨⟨n0, n1⟩, rfl, h0, wf_u32 h1⟩
def Ob.In (o : Ob) : Prop := J64 o.cls ∧ o.name.size ≤ 140737488355328 ∧ J64 o.typ ∧ o.val.In ∧ J64 o.n
theorem read_ob {c : List Dat} (h : TyD Try.prog 34 c) : ∃ s : Ob, c = s.c ∧ s.In := by
 obtain ⟨parts, rfl, hl, hp⟩ := h.st_inv Try.underlying34
 match parts, hl with
 | [p0, p1, p2, p3, p4], _ =>
  obtain ⟨n0, rfl, h0⟩ := (hp 0 _ _ rfl rfl).int_inv Try.underlying3
  obtain ⟨n1, rfl, h1⟩ := (hp 1 _ _ rfl rfl).str_inv Try.underlying9
  obtain ⟨n2, rfl, h2⟩ := (hp 2 _ _ rfl rfl).int_inv Try.underlying3
  obtain ⟨ps, rfl, hl3, hp3⟩ := (hp 3 _ _ rfl rfl).st_inv Try.underlying32
  match ps, hl3 with
  | [q0, q1, q2], _ =>
   obtain ⟨m0, rfl, k0⟩ := (hp3 0 _ _ rfl rfl).int_inv Try.underlying3
   obtain ⟨m1, rfl, k1⟩ := (hp3 1 _ _ rfl rfl).int_inv Try.underlying3
   obtain ⟨m2, rfl, k2⟩ := (hp3 2 _ _ rfl rfl).str_inv Try.underlying9
   obtain ⟨n4, rfl, h4⟩ := (hp 4 _ _ rfl rfl).int_inv Try.underlying3
   exact ⟨⟨n0, n1, n2, ⟨m0, m1, m2⟩, n4⟩, rfl, wf_i64 h0, h1, wf_i64 h2, ⟨wf_i64 k0, wf_i64 k1, k2⟩, wf_i64 h4⟩
theorem read_face {a : AV} (h : ArgD Try.prog 27 a) : ∃ f : Fc, a = f.av ∧ FIn f ∧ (0 ≤ f.key ∧ f.key < 4294967296) ∧ (∀ u ∈ f.uses, 0 ≤ u.key ∧ u.key < 4294967296) ∧ (∀ o ∈ f.objs, o.In) ∧ ∀ x ∈ f.types, x.In := by
 obtain ⟨ds, rfl, hd⟩ := h.st Try.underlying27
 obtain ⟨parts, rfl, hl, hp⟩ := hd.st_inv Try.underlying27
 match parts, hl with
 | [p0, p1, p2, p3, p4], _ =>
  obtain ⟨nm, rfl, h0⟩ := (hp 0 _ _ rfl rfl).str_inv Try.underlying9
  obtain ⟨ky, rfl, h1⟩ := (hp 1 _ _ rfl rfl).int_inv Try.underlying22
  obtain ⟨us, rfl, ⟨_, h2⟩, g2⟩ := (hp 2 _ _ rfl rfl).sl_inv Try.underlying23
  obtain ⟨ts, rfl, ⟨_, h3⟩, g3⟩ := (hp 3 _ _ rfl rfl).sl_inv Try.underlying24
  obtain ⟨os, rfl, ⟨_, h4⟩, g4⟩ := (hp 4 _ _ rfl rfl).sl_inv Try.underlying25
  obtain ⟨ul, rfl, gu⟩ := read_list Us.c (fun u => u.name.size ≤ 140737488355328 ∧ 0 ≤ u.key ∧ u.key < 4294967296) fun c hc => read_us (g2 c hc)
  obtain ⟨tl, rfl, gt⟩ := read_list Ty.c Ty.In fun c hc => read_ty1 (g3 c hc)
  obtain ⟨ol, rfl, go⟩ := read_list Ob.c Ob.In fun c hc => read_ob (g4 c hc)
  rw [List.length_map] at h2 h3 h4
  exact ⟨⟨nm, ky, ul, tl, ol⟩, rfl, ⟨h0, len_le by_us h2, len_le by_ob h4, ⟨len_le by_ty h3, fun x hx => (gt x hx).ok⟩, fun x hx f hf => ((gt x hx).fd f hf).1, fun o ho => ⟨(go o ho).2.1, (go o ho).2.2.1, (go o ho).2.2.2.1, (go o ho).2.2.2.2⟩, fun u hu => (gu u hu).1⟩, wf_u32 h1, fun u hu => (gu u hu).2, go, gt⟩
end Go.Proofs.Ythifjndenhjobaa

/- SymfileApart, of any arguments. -/
namespace Go.Proofs.Ythifjndenhjobaa
set_option linter.unusedVariables false
set_option linter.unusedSimpArgs false
open Go.ChangeShapes Go.WideShapes Go.ChangeAt Go.RowKit
theorem symfileApart_any {a0 a1 : AV} (h0 : ArgD Try.prog 27 a0) (h1 : ArgD Try.prog 27 a1) (v0 v1 : Value) (W : World) (hv : VRs ⟨W.cell?, fun _ _ => none⟩ [a0, a1] [v0, v1]) :
 Calls Try.prog 10 #[v0, v1] W fun e w' => e = .returned (.bool true) ∧ Below W.heap.size W w' := by
 obtain ⟨f, rfl, hf, hk, hu, _⟩ := read_face h0
 obtain ⟨g, rfl, hg, gk, gu, _⟩ := read_face h1
 exact (Rid.SymfileApart_c hf ⟨hk, hu⟩ hg ⟨gk, gu⟩ []).law (fun a v h => h) hv
end Go.Proofs.Ythifjndenhjobaa

/- The row SymfileApart, proved. -/
namespace Go.Proofs.Ythifjndenhjobaa
set_option linter.unusedVariables false
set_option linter.unusedSimpArgs false
open Go.ChangeShapes Go.WideShapes Go.ChangeAt Go.RowKit

set_option maxRecDepth 100000 in
theorem symfileApart_lifted (os : Os) (started : os.Started) (H : Type) (enc : TypeId × Value → H) :
 ReturnsInHanded {} Try.checked os 10 .any (Rows.symfileApartSpec.pre6 enc Try.prog Try.f10 Rows.symfileApartRow.domain false) (Rows.symfileApartSpec.post enc Try.prog Try.f10 false true false false) := by
 refine returnsInHanded_of_change_sized (C := Try.checked) Try.own started (by kernel_rfl) Try.func10
  (ChangeSpec.witness6 (enc := enc) (C := Try.checked) false ⟨#[], #[.agg #[.string ⟨#[]⟩, .int .u32 0, .slice none 0 0, .slice none 0 0, .slice none 0 0], .agg #[.string ⟨#[]⟩, .int .u32 0, .slice none 0 0, .slice none 0 0, .slice none 0 0]], []⟩ 8 (by kernel_rfl) (by kernel_rfl) (by kernel_rfl) (by kernel_rfl)) ?_
 intro W base args ds gs before hval0 hW hcnd hsz _
 have hval : ∀ (j : Nat) t v, Try.f10.params[j]? = some t → args[j]? = some v → Value.okWide Try.prog W .any base t v := hval0
 have hW' := hW
 obtain ⟨p, q, hA0, hV, rfl, hfz, hnd⟩ := hW
 have hA : DataW.TrodAll enc Try.prog W 0 (fun _ => true) true Try.f10.params.toList args.toList ds p := hA0
 rw [Try.params10] at hA hval hsz
 obtain ⟨v0, v1, d0, d1, p0, p1, rfl, rfl, rfl, h0, h1⟩ := trodAll_two hA
 obtain ⟨rfl, rfl⟩ := trodVars_none hV
 obtain ⟨a0, ha0, hr0⟩ := read_val argL_ok (by decide) (hval 0 27 v0 rfl rfl) h0 (fun n hn => of_decide_eq_true (List.all_eq_true.1 hsz n (DataW.weights_mem_each (j := 0) rfl rfl n hn)))
 obtain ⟨a1, ha1, hr1⟩ := read_val argL_ok (by decide) (hval 1 27 v1 rfl rfl) h1 (fun n hn => of_decide_eq_true (List.all_eq_true.1 hsz n (DataW.weights_mem_each (j := 1) rfl rfl n hn)))
 clear hA0 hval0
 simp only [List.append_nil] at hW'
 have hlt := hW'.lt
 refine (symfileApart_any ha0 ha1 v0 v1 W (.cons hr0 (.cons hr1 .nil))).mono fun e W' ⟨he, hw⟩ => ?_
 subst he
 exact ⟨_, rfl, post_of_below (pa := p0 ++ p1) (pv := []) hW' (fun _ _ _ => trodAll_mk1 (shut_bool Try.underlying4 _)) (fun sp hsp => trodAll_mk2 (WideElems.Trod_stays Try.laidOut (by kernel_rfl) (of_decide_eq_true (by kernel_rfl)) h0 (fun x hx => hw.same (hlt x (by simp [hx]))) (fun x hx => hsp x (by simp [hx]))) (WideElems.Trod_stays Try.laidOut (by kernel_rfl) (of_decide_eq_true (by kernel_rfl)) h1 (fun x hx => hw.same (hlt x (by simp [hx]))) (fun x hx => hsp x (by simp [hx])))) (fun _ _ => rfl) (by simp)
  hw (ok_one (by kernel_rfl) rfl (okWide_bool_mk Try.underlying4 _))⟩

theorem symfileApart_holds : Rows.SymfileApartSaid :=
 OpenClaim.holds_of_wide 10 Try.f10 rfl rfl rfl rfl rfl rfl rfl ⟨rfl, rfl, rfl, rfl, rfl⟩ rfl rfl rfl rfl rfl (by kernel_rfl) Try.func10 (by kernel_rfl)
  (of_decide_eq_true (by kernel_rfl)) (by unfold Func.isWrapper; first | (rw [if_pos (by decide +kernel)]; kernel_rfl) | (rw [if_neg (by decide +kernel)]; exact ⟨rfl, rfl⟩))
  (fun os started H enc _ => symfileApart_lifted os started H enc)
end Go.Proofs.Ythifjndenhjobaa
