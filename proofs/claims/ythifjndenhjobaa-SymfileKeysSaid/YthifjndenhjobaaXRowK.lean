/- The arguments of the rows. -/
import Derived.Test.YthifjndenhjobaaXRead
import Derived.Test.YthifjndenhjobaaXI5
import Derived.Test.YthifjndenhjobaaXL1
import Derived.Test.YthifjndenhjobaaXCodeE
import Derived.Test.YthifjndenhjobaaXD8
import Derived.Test.YthifjndenhjobaaRows
namespace Go.Proofs.Ythifjndenhjobaa
set_option linter.unusedVariables false
set_option linter.unusedSimpArgs false
open Go.ChangeShapes Go.WideShapes Go.ChangeAt Go.RowKit
theorem Try.laidOut : laidOutB Try.prog = true := by kernel_rfl
theorem Try.own : ownKnob Try.prog.godebug = none := by kernel_rfl
def argL : List TypeId := [27, 23, 24, 25, 65, 49, 34, 32, 46, 47, 83, 85, 3, 9, 4, 22, 5]
theorem argL_ok : dataB Try.prog argL = true := by kernel_rfl
theorem read_list {α : Type} [Inhabited α] (f : α → List Dat) (Ok : α → Prop) {es : List (List Dat)} (h : ∀ c ∈ es, ∃ s, c = f s ∧ Ok s) : ∃ l : List α, es = l.map f ∧ ∀ s ∈ l, Ok s := by
 have key : ∀ c : List Dat, ∃ s : α, c ∈ es → c = f s ∧ Ok s := fun c => by
  by_cases hc : c ∈ es
  ·obtain ⟨s, e, hs⟩ := h c hc
   exact ⟨s, fun _ => ⟨e, hs⟩⟩
  ·exact ⟨default, fun h => absurd h hc⟩
 obtain ⟨F, hF⟩ := Classical.axiomOfChoice key
 refine ⟨es.map F, ?_, fun x hx => ?_⟩
 ·rw [List.map_map]
  symm
  conv => rhs; rw [← List.map_id es]
  exact List.map_congr_left fun c hc => ((hF c hc).1).symm
 ·obtain ⟨c, hc, rfl⟩ := List.mem_map.1 hx
  exact (hF c hc).2
def Fd.In (f : Fd) : Prop := f.name.size ≤ 140737488355328 ∧ J64 f.typ
def Pm.In (p : Pm) : Prop := J64 p.typ
structure Ty.In (x : Ty) : Prop where
 ok : x.Ok
 fd : ∀ f ∈ x.fields, f.In
 pm : ∀ p ∈ x.params, p.In
theorem read_fd {c : List Dat} (h : TyD Try.prog 83 c) : ∃ s : Fd, c = s.c ∧ s.In := by
 obtain ⟨parts, rfl, hl, hp⟩ := h.st_inv Try.underlying83
 match parts, hl with
 | [p0, p1, p2], _ =>
  obtain ⟨n0, rfl, h0⟩ := (hp 0 _ _ rfl rfl).str_inv Try.underlying9
  obtain ⟨n1, rfl⟩ := (hp 1 _ _ rfl rfl).bool_inv Try.underlying4
  obtain ⟨n2, rfl, h2⟩ := (hp 2 _ _ rfl rfl).int_inv Try.underlying3
  exact ⟨⟨n0, n1, n2⟩, rfl, h0, wf_i64 h2⟩
theorem read_pm {c : List Dat} (h : TyD Try.prog 85 c) : ∃ s : Pm, c = s.c ∧ s.In := by
 obtain ⟨parts, rfl, hl, hp⟩ := h.st_inv Try.underlying85
 match parts, hl with
 | [p0, p1], _ =>
  obtain ⟨n0, rfl⟩ := (hp 0 _ _ rfl rfl).bool_inv Try.underlying4
  obtain ⟨n1, rfl, h1⟩ := (hp 1 _ _ rfl rfl).int_inv Try.underlying3
  exact ⟨⟨n0, n1⟩, rfl, wf_i64 h1⟩
theorem len_le {n e : Nat} (hb : 1 ≤ Try.prog.bytesOf e) (h : n * Try.prog.bytesOf e ≤ 140737488355328) : n ≤ 140737488355328 := Nat.le_trans (Nat.le_mul_of_pos_right n hb) h
theorem by_fd : 1 ≤ Try.prog.bytesOf 83 := of_decide_eq_true (by kernel_rfl)
theorem by_pm : 1 ≤ Try.prog.bytesOf 85 := of_decide_eq_true (by kernel_rfl)
theorem by_ty : 1 ≤ Try.prog.bytesOf 49 := of_decide_eq_true (by kernel_rfl)
theorem by_us : 1 ≤ Try.prog.bytesOf 65 := of_decide_eq_true (by kernel_rfl)
theorem by_ob : 1 ≤ Try.prog.bytesOf 34 := of_decide_eq_true (by kernel_rfl)
theorem read_ty1 {c : List Dat} (h : TyD Try.prog 49 c) : ∃ s : Ty, c = s.c ∧ s.In := by
 obtain ⟨parts, rfl, hl, hp⟩ := h.st_inv Try.underlying49
 match parts, hl with
 | [p0, p1, p2, p3, p4, p5, p6, p7, p8, p9], _ =>
  obtain ⟨n0, rfl, h0⟩ := (hp 0 _ _ rfl rfl).int_inv Try.underlying3
  obtain ⟨n1, rfl, h1⟩ := (hp 1 _ _ rfl rfl).str_inv Try.underlying9
  obtain ⟨n2, rfl, h2⟩ := (hp 2 _ _ rfl rfl).str_inv Try.underlying9
  obtain ⟨n3, rfl, h3⟩ := (hp 3 _ _ rfl rfl).int_inv Try.underlying3
  obtain ⟨n4, rfl, h4⟩ := (hp 4 _ _ rfl rfl).int_inv Try.underlying3
  obtain ⟨n5, rfl, h5⟩ := (hp 5 _ _ rfl rfl).int_inv Try.underlying3
  obtain ⟨n6, rfl, ⟨_, h6⟩, g6⟩ := (hp 6 _ _ rfl rfl).sl_inv Try.underlying46
  obtain ⟨n7, rfl, ⟨_, h7⟩, g7⟩ := (hp 7 _ _ rfl rfl).sl_inv Try.underlying47
  obtain ⟨n8, rfl, h8⟩ := (hp 8 _ _ rfl rfl).int_inv Try.underlying3
  obtain ⟨n9, rfl, h9⟩ := (hp 9 _ _ rfl rfl).int_inv Try.underlying3
  obtain ⟨fl, rfl, gf⟩ := read_list Fd.c Fd.In fun c hc => read_fd (g6 c hc)
  obtain ⟨pl, rfl, gp⟩ := read_list Pm.c Pm.In fun c hc => read_pm (g7 c hc)
  rw [List.length_map] at h6 h7
  exact ⟨⟨n0, n1, n2, n3, n4, n5, fl, pl, n8, n9⟩, rfl, ⟨len_le by_fd h6, len_le by_pm h7, h1, h2⟩, gf, gp⟩
theorem read_us {c : List Dat} (h : TyD Try.prog 65 c) : ∃ s : Us, c = s.c ∧ s.name.size ≤ 140737488355328 ∧ 0 ≤ s.key ∧ s.key < 4294967296 := by
 obtain ⟨parts, rfl, hl, hp⟩ := h.st_inv Try.underlying65
 match parts, hl with
 | [p0, p1], _ =>
  obtain ⟨n0, rfl, h0⟩ := (hp 0 _ _ rfl rfl).str_inv Try.underlying9
  obtain ⟨n1, rfl, h1⟩ := (hp 1 _ _ rfl rfl).int_inv Try.underlying22
  exact ⟨⟨n0, n1⟩, rfl, h0, wf_u32 h1⟩
def Ob.In (o : Ob) : Prop := J64 o.cls ∧ o.name.size ≤ 140737488355328 ∧ J64 o.typ ∧ o.val.In ∧ J64 o.n
theorem read_ob {c : List Dat} (h : TyD Try.prog 34 c) : ∃ s : Ob, c = s.c ∧ s.In := by
 obtain ⟨parts, rfl, hl, hp⟩ := h.st_inv Try.underlying34
 match parts, hl with
 | [p0, p1, p2, p3, p4], _ =>
  obtain ⟨n0, rfl, h0⟩ := (hp 0 _ _ rfl rfl).int_inv Try.underlying3
  obtain ⟨n1, rfl, h1⟩ := (hp 1 _ _ rfl rfl).str_inv Try.underlying9
  obtain ⟨n2, rfl, h2⟩ := (hp 2 _ _ rfl rfl).int_inv Try.underlying3
  obtain ⟨ps, rfl, hl3, hp3⟩ := (hp 3 _ _ rfl rfl).st_inv Try.underlying32
  match ps, hl3 with
  | [q0, q1, q2], _ =>
   obtain ⟨m0, rfl, k0⟩ := (hp3 0 _ _ rfl rfl).int_inv Try.underlying3
   obtain ⟨m1, rfl, k1⟩ := (hp3 1 _ _ rfl rfl).int_inv Try.underlying3
   obtain ⟨m2, rfl, k2⟩ := (hp3 2 _ _ rfl rfl).str_inv Try.underlying9
   obtain ⟨n4, rfl, h4⟩ := (hp 4 _ _ rfl rfl).int_inv Try.underlying3
   exact ⟨⟨n0, n1, n2, ⟨m0, m1, m2⟩, n4⟩, rfl, wf_i64 h0, h1, wf_i64 h2, ⟨wf_i64 k0, wf_i64 k1, k2⟩, wf_i64 h4⟩
theorem read_face {a : AV} (h : ArgD Try.prog 27 a) : ∃ f : Fc, a = f.av ∧ FIn f ∧ (0 ≤ f.key ∧ f.key < 4294967296) ∧ (∀ u ∈ f.uses, 0 ≤ u.key ∧ u.key < 4294967296) ∧ (∀ o ∈ f.objs, o.In) ∧ ∀ x ∈ f.types, x.In := by
 obtain ⟨ds, rfl, hd⟩ := h.st Try.underlying27
 obtain ⟨parts, rfl, hl, hp⟩ := hd.st_inv Try.underlying27
 match parts, hl with
 | [p0, p1, p2, p3, p4], _ =>
  obtain ⟨nm, rfl, h0⟩ := (hp 0 _ _ rfl rfl).str_inv Try.underlying9
  obtain ⟨ky, rfl, h1⟩ := (hp 1 _ _ rfl rfl).int_inv Try.underlying22
  obtain ⟨us, rfl, ⟨_, h2⟩, g2⟩ := (hp 2 _ _ rfl rfl).sl_inv Try.underlying23
  obtain ⟨ts, rfl, ⟨_, h3⟩, g3⟩ := (hp 3 _ _ rfl rfl).sl_inv Try.underlying24
  obtain ⟨os, rfl, ⟨_, h4⟩, g4⟩ := (hp 4 _ _ rfl rfl).sl_inv Try.underlying25
  obtain ⟨ul, rfl, gu⟩ := read_list Us.c (fun u => u.name.size ≤ 140737488355328 ∧ 0 ≤ u.key ∧ u.key < 4294967296) fun c hc => read_us (g2 c hc)
  obtain ⟨tl, rfl, gt⟩ := read_list Ty.c Ty.In fun c hc => read_ty1 (g3 c hc)
  obtain ⟨ol, rfl, go⟩ := read_list Ob.c Ob.In fun c hc => read_ob (g4 c hc)
  rw [List.length_map] at h2 h3 h4
  exact ⟨⟨nm, ky, ul, tl, ol⟩, rfl, ⟨h0, len_le by_us h2, len_le by_ob h4, ⟨len_le by_ty h3, fun x hx => (gt x hx).ok⟩, fun x hx f hf => ((gt x hx).fd f hf).1, fun o ho => ⟨(go o ho).2.1, (go o ho).2.2.1, (go o ho).2.2.2.1, (go o ho).2.2.2.2⟩, fun u hu => (gu u hu).1⟩, wf_u32 h1, fun u hu => (gu u hu).2, go, gt⟩
end Go.Proofs.Ythifjndenhjobaa

/- SymfileBack, SymfileCuts, SymfileKeys, of Decode's answer. -/
namespace Go.Proofs.Ythifjndenhjobaa.Rid
set_option linter.unusedSimpArgs false
set_option linter.unusedVariables false
set_option maxRecDepth 20000
set_option maxHeartbeats 4000000
open Go.RowKit

def c11 : AC :=
 .seq (.reg [kn 2 (.bx (.t 0)), kn 4 (.mv (.c (.d (.v (.bool false)))))])
 (.seq (.seq (.reg [kn 13 (.ld (.t 2) 5 true), kn 14 (.call 14 [(.t 13)]), kn 15 (.mv (.t 14)), ko 16 15 (.mv (.t 1)), ko 17 15 (.len true (.t 16)), ko 18 15 (.bin .gtr (.t 17) (kc 30000)), kn 19 (.pick (.t 15) (.c (.d (.v (.bool true)))) (.t 18))])
 (.cond (.t 19) (.seq (.reg [kn 20 (.call 26 []), kn 4 (.mv (.t 20))])
 (.ret)) (.skip)))
 (.seq (.reg [kn 22 (.ld (.t 2) 5 true), kn 23 (.call 16 [(.t 22)]), kn 24 (.call 27 [(.t 23)]), kn 21 (.mv (.t 24)), kn 25 (.ext (.t 21) 0), kn 26 (.ext (.t 21) 1), kn 5 (.mv (.t 25)), kn 6 (.mv (.t 26))])
 (.seq (.seq (.reg [kn 27 (.mv (.t 6)), kn 28 (.bin .eql (.t 27) (kc 0))])
 (.cond (.t 28) (.seq (.reg [kn 30 (.mv (.t 5)), kn 31 (.call 31 [(.t 30)]), kn 29 (.mv (.t 31)), kn 32 (.ext (.t 29) 0), kn 33 (.ext (.t 29) 1), kn 7 (.al [(.d (.v (.string ⟨#[]⟩))), (.d (.v (.int .u32 0))), .esl, .esl, .esl]), ke (.st (.t 7) (.t 32) 5), kn 8 (.mv (.t 33))])
 (.seq (.reg [kn 34 (.mv (.t 8)), kn 35 (.bin .neq (.t 34) (kc 0)), kn 36 (.mv (.t 35)), ko 37 36 (.ld (.t 2) 5 true), ko 38 36 (.ld (.t 7) 5 true), ko 39 36 (.call 22 [(.t 37), (.t 38)]), ko 40 36 (.un .not (.t 39)), kn 41 (.pick (.t 36) (.c (.d (.v (.bool true)))) (.t 40))])
 (.cond (.t 41) (.seq (.reg [kn 4 (.mv (.c (.d (.v (.bool false)))))])
 (.ret)) (.skip)))) (.skip)))
 (.seq (.reg [kn 43 (.mv (.t 1)), kn 44 (.call 31 [(.t 43)]), kn 42 (.mv (.t 44)), kn 45 (.ext (.t 42) 0), kn 46 (.ext (.t 42) 1), kn 9 (.al [(.d (.v (.string ⟨#[]⟩))), (.d (.v (.int .u32 0))), .esl, .esl, .esl]), ke (.st (.t 9) (.t 45) 5), kn 10 (.mv (.t 46))])
 (.seq (.seq (.reg [kn 47 (.mv (.t 10)), kn 48 (.bin .neq (.t 47) (kc 0))])
 (.cond (.t 48) (.seq (.reg [kn 49 (.mv (.t 10)), kn 50 (.bin .eql (.t 49) (kc 170)), kn 51 (.mv (.t 50)), ky 52 51 (.fa (.t 9) 0), ky 53 51 (.ld (.t 52) 1 false), ky 54 51 (.bin .eql (.t 53) (.c (.d (.v (.string ⟨#[]⟩))))), kn 55 (.pick (.t 51) (.t 54) (.c (.d (.v (.bool false))))), kn 56 (.mv (.t 55)), ky 57 56 (.fa (.t 9) 4), ky 58 56 (.ld (.t 57) 1 false), ky 59 56 (.len false (.t 58)), ky 60 56 (.bin .eql (.t 59) (kc 0)), kn 61 (.pick (.t 56) (.t 60) (.c (.d (.v (.bool false))))), kn 62 (.mv (.t 61)), ky 63 62 (.call 26 []), kn 64 (.pick (.t 62) (.t 63) (.c (.d (.v (.bool false))))), kn 4 (.mv (.t 64))])
 (.ret)) (.skip)))
 (.seq (.reg [kn 66 (.ld (.t 9) 5 true), kn 67 (.call 27 [(.t 66)]), kn 65 (.mv (.t 67)), kn 68 (.ext (.t 65) 0), kn 69 (.ext (.t 65) 1), kn 11 (.mv (.t 68)), kn 12 (.mv (.t 69))])
 (.seq (.reg [kn 70 (.mv (.t 12)), kn 71 (.bin .eql (.t 70) (kc 0)), kn 72 (.mv (.t 71)), ky 73 72 (.mv (.t 11)), ky 74 72 (.mv (.t 1)), ky 75 72 (.bin .eql (.t 73) (.t 74)), kn 76 (.pick (.t 72) (.t 75) (.c (.d (.v (.bool false))))), kn 77 (.mv (.t 76)), ky 78 77 (.call 26 []), kn 79 (.pick (.t 77) (.t 78) (.c (.d (.v (.bool false))))), kn 4 (.mv (.t 79))])
 (.ret))))))))
def r11 : List RC := [.t 4]

def c12 : AC :=
 .seq (.reg [kn 3 (.bx (.t 0)), kn 6 (.mv (.c (.d (.v (.bool false)))))])
 (.seq (.seq (.reg [kn 14 (.ld (.t 3) 5 true), kn 15 (.call 14 [(.t 14)])])
 (.cond (.t 15) (.seq (.reg [kn 16 (.call 26 []), kn 6 (.mv (.t 16))])
 (.ret)) (.skip)))
 (.seq (.reg [kn 18 (.ld (.t 3) 5 true), kn 19 (.call 16 [(.t 18)]), kn 20 (.call 27 [(.t 19)]), kn 17 (.mv (.t 20)), kn 21 (.ext (.t 17) 0), kn 22 (.ext (.t 17) 1), kn 7 (.mv (.t 21)), kn 8 (.mv (.t 22))])
 (.seq (.seq (.reg [kn 23 (.mv (.t 8)), kn 24 (.bin .neq (.t 23) (kc 0))])
 (.cond (.t 24) (.seq (.reg [kn 25 (.mv (.t 7)), kn 26 (.bin .eql (.t 25) (.c (.d (.v (.string ⟨#[]⟩))))), kn 27 (.mv (.t 26)), ky 28 27 (.call 26 []), kn 29 (.pick (.t 27) (.t 28) (.c (.d (.v (.bool false))))), kn 6 (.mv (.t 29))])
 (.ret)) (.skip)))
 (.seq (.seq (.reg [kn 30 (.mv (.t 7)), kn 31 (.bin .eql (.t 30) (.c (.d (.v (.string ⟨#[]⟩)))))])
 (.cond (.t 31) (.seq (.reg [kn 6 (.mv (.c (.d (.v (.bool false)))))])
 (.ret)) (.skip)))
 (.seq (.reg [kn 32 (.mv (.t 1)), kn 33 (.cvi .u64 (.t 32)), kn 34 (.mv (.t 7)), kn 35 (.len true (.t 34)), kn 36 (.cvi .u64 (.t 35)), kn 37 (.bin .rem (.t 33) (.t 36)), kn 38 (.cvi .i64 (.t 37)), kn 9 (.mv (.t 38))])
 (.seq (.reg [kn 40 (.mv (.t 7)), kn 41 (.mv (.t 9)), kn 42 (.sli true (.t 40) none (some (.t 41)) 1), kn 43 (.call 31 [(.t 42)]), kn 39 (.mv (.t 43)), kn 44 (.ext (.t 39) 0), kn 45 (.ext (.t 39) 1), kn 10 (.al [(.d (.v (.string ⟨#[]⟩))), (.d (.v (.int .u32 0))), .esl, .esl, .esl]), ke (.st (.t 10) (.t 44) 5), kn 11 (.mv (.t 45))])
 (.seq (.reg [kn 47 (.mv (.t 7)), kn 48 (.mv (.t 2)), kn 49 (.bs .im 5 1 [(.t 48)]), kn 50 (.b2s (.t 49)), kn 51 (.bin .add (.t 47) (.t 50)), kn 52 (.call 31 [(.t 51)]), kn 46 (.mv (.t 52)), kn 53 (.ext (.t 46) 0), kn 54 (.ext (.t 46) 1), kn 12 (.al [(.d (.v (.string ⟨#[]⟩))), (.d (.v (.int .u32 0))), .esl, .esl, .esl]), ke (.st (.t 12) (.t 53) 5), kn 13 (.mv (.t 54))])
 (.seq (.reg [kn 55 (.mv (.t 11)), kn 56 (.bin .eql (.t 55) (kc 170)), kn 57 (.mv (.t 56)), ky 58 57 (.mv (.t 13)), ky 59 57 (.bin .eql (.t 58) (kc 170)), kn 60 (.pick (.t 57) (.t 59) (.c (.d (.v (.bool false))))), kn 61 (.mv (.t 60)), ky 62 61 (.call 26 []), kn 63 (.pick (.t 61) (.t 62) (.c (.d (.v (.bool false))))), kn 6 (.mv (.t 63))])
 (.ret)))))))))
def r12 : List RC := [.t 6]

def c13 : AC :=
 .seq (.reg [kn 2 (.bx (.t 0)), kn 4 (.mv (.c (.d (.v (.bool false)))))])
 (.seq (.seq (.reg [kn 16 (.ld (.t 2) 5 true), kn 17 (.call 14 [(.t 16)])])
 (.cond (.t 17) (.seq (.reg [kn 18 (.call 26 []), kn 4 (.mv (.t 18))])
 (.ret)) (.skip)))
 (.seq (.reg [kn 20 (.ld (.t 2) 5 true), kn 21 (.call 16 [(.t 20)]), kn 22 (.call 29 [(.t 21)]), kn 19 (.mv (.t 22)), kn 23 (.ext (.t 19) 0), kn 24 (.ext (.t 19) 1), kn 5 (.mv (.t 23)), kn 6 (.mv (.t 24))])
 (.seq (.reg [kn 25 (.ld (.t 2) 5 true), kn 26 (.call 16 [(.t 25)]), kn 7 (.al [(.d (.v (.string ⟨#[]⟩))), (.d (.v (.int .u32 0))), .esl, .esl, .esl]), ke (.st (.t 7) (.t 26) 5)])
 (.seq (.reg [kn 27 (.mv (.t 1)), kn 28 (.fa (.t 7) 1), ke (.st (.t 28) (.t 27) 1)])
 (.seq (.reg [kn 30 (.ld (.t 7) 5 true), kn 31 (.call 16 [(.t 30)]), kn 32 (.call 29 [(.t 31)]), kn 29 (.mv (.t 32)), kn 33 (.ext (.t 29) 0), kn 34 (.ext (.t 29) 1), kn 8 (.mv (.t 33)), kn 9 (.mv (.t 34))])
 (.seq (.seq (.reg [kn 35 (.mv (.t 6)), kn 36 (.bin .neq (.t 35) (kc 0))])
 (.cond (.t 36) (.seq (.reg [kn 37 (.mv (.t 9)), kn 38 (.mv (.t 6)), kn 39 (.bin .eql (.t 37) (.t 38)), kn 40 (.mv (.t 39)), ky 41 40 (.mv (.t 5)), ky 42 40 (.bin .eql (.t 41) (.c (.d (.v (.int .u32 0))))), kn 43 (.pick (.t 40) (.t 42) (.c (.d (.v (.bool false))))), kn 44 (.mv (.t 43)), ky 45 44 (.mv (.t 8)), ky 46 44 (.bin .eql (.t 45) (.c (.d (.v (.int .u32 0))))), kn 47 (.pick (.t 44) (.t 46) (.c (.d (.v (.bool false))))), kn 48 (.mv (.t 47)), ky 49 48 (.call 26 []), kn 50 (.pick (.t 48) (.t 49) (.c (.d (.v (.bool false))))), kn 4 (.mv (.t 50))])
 (.ret)) (.skip)))
 (.seq (.reg [kn 52 (.ld (.t 7) 5 true), kn 53 (.call 27 [(.t 52)]), kn 51 (.mv (.t 53)), kn 54 (.ext (.t 51) 0), kn 55 (.ext (.t 51) 1), kn 10 (.mv (.t 54)), kn 11 (.mv (.t 55))])
 (.seq (.reg [kn 57 (.mv (.t 10)), kn 58 (.call 31 [(.t 57)]), kn 56 (.mv (.t 58)), kn 59 (.ext (.t 56) 0), kn 60 (.ext (.t 56) 1), kn 12 (.al [(.d (.v (.string ⟨#[]⟩))), (.d (.v (.int .u32 0))), .esl, .esl, .esl]), ke (.st (.t 12) (.t 59) 5), kn 13 (.mv (.t 60))])
 (.seq (.reg [kn 62 (.ld (.t 12) 5 true), kn 63 (.call 29 [(.t 62)]), kn 61 (.mv (.t 63)), kn 64 (.ext (.t 61) 0), kn 65 (.ext (.t 61) 1), kn 14 (.mv (.t 64)), kn 15 (.mv (.t 65))])
 (.seq (.reg [kn 66 (.mv (.t 9)), kn 67 (.bin .eql (.t 66) (kc 0)), kn 68 (.mv (.t 67)), ky 69 68 (.mv (.t 11)), ky 70 68 (.bin .eql (.t 69) (kc 0)), kn 71 (.pick (.t 68) (.t 70) (.c (.d (.v (.bool false))))), kn 72 (.mv (.t 71)), ky 73 72 (.mv (.t 13)), ky 74 72 (.bin .eql (.t 73) (kc 0)), kn 75 (.pick (.t 72) (.t 74) (.c (.d (.v (.bool false))))), kn 76 (.mv (.t 75)), ky 77 76 (.mv (.t 15)), ky 78 76 (.bin .eql (.t 77) (kc 0)), kn 79 (.pick (.t 76) (.t 78) (.c (.d (.v (.bool false))))), kn 80 (.mv (.t 79)), ky 81 80 (.mv (.t 5)), ky 82 80 (.mv (.t 8)), ky 83 80 (.bin .eql (.t 81) (.t 82)), kn 84 (.pick (.t 80) (.t 83) (.c (.d (.v (.bool false))))), kn 85 (.mv (.t 84)), ky 86 85 (.mv (.t 5)), ky 87 85 (.mv (.t 14)), ky 88 85 (.bin .eql (.t 86) (.t 87)), kn 89 (.pick (.t 85) (.t 88) (.c (.d (.v (.bool false))))), kn 90 (.mv (.t 89)), ky 91 90 (.mv (.t 5)), ky 92 90 (.bin .neq (.t 91) (.c (.d (.v (.int .u32 0))))), kn 93 (.pick (.t 90) (.t 92) (.c (.d (.v (.bool false))))), kn 94 (.mv (.t 93)), ky 95 94 (.fa (.t 12) 1), ky 96 94 (.ld (.t 95) 1 false), ky 97 94 (.mv (.t 1)), ky 98 94 (.bin .eql (.t 96) (.t 97)), kn 99 (.pick (.t 94) (.t 98) (.c (.d (.v (.bool false))))), kn 100 (.mv (.t 99)), ky 101 100 (.call 26 []), kn 102 (.pick (.t 100) (.t 101) (.c (.d (.v (.bool false))))), kn 4 (.mv (.t 102))])
 (.ret)))))))))))
def r13 : List RC := [.t 4]

theorem cc11 : Try.f11.body.bind (comp Try.prog (hhE 11)) = some c11 := by kernel_rfl
theorem rr11 : resC Try.prog Try.f11 = some r11 := by kernel_rfl
theorem cc12 : Try.f12.body.bind (comp Try.prog (hhE 12)) = some c12 := by kernel_rfl
theorem rr12 : resC Try.prog Try.f12 = some r12 := by kernel_rfl
theorem cc13 : Try.f13.body.bind (comp Try.prog (hhE 13)) = some c13 := by kernel_rfl
theorem rr13 : resC Try.prog Try.f13 = some r13 := by kernel_rfl
def DecC : Prop := ∀ (s : ByteArray), s.size ≤ 300000 → ∀ H, ACalls Try.prog 31 [sv s] H fun v H' => v = .tup (decV s) ∧ H' = H
theorem SymfileBack_c (hd : DecC) {f : Fc} (hf : FIn f) (kf : KeyP f) (s : ByteArray) (hn : s.size ≤ 140737488355328) (H : List ABlk) : ACalls Try.prog 11 [f.av, sv s] H fun v H' => v = bv true ∧ H' = H := by
 refine ACalls.into Try.func11 cc11 rr11 fun hcl => ?_
 have out : ∀ {b : Bool} {l : List ABlk}, b = true → Ret r11 H.length (fun v H' => v = bv true ∧ H' = H) (some (bv b)) (H ++ l) := fun {b l} h =>
  Ret.drop _ H (Nat.le_refl _) hcl (.rfl _) (by simp [refs]) ⟨by rw [h], rfl⟩
 simp (maxSteps := 2000000) (disch := omega) only [Try.ntmps11, c11, r11, Fc.cs, go_sem, seval, reduceCtorEq]
 refine Cont.rel (large16_c hf _) ?_
 rintro v H' ⟨⟨B, rfl, hB⟩, rfl⟩
 cases hBv : B with
 | true =>
  simp (maxSteps := 2000000) (disch := omega) only [go_sem, seval, reduceCtorEq]
  refine Cont.mk (wakesY_c _) ?_
  simp (maxSteps := 2000000) (disch := omega) only [go_sem, seval, reduceCtorEq]
  exact out rfl
 | false =>
  have hL := hB.1 hBv
  obtain ⟨sa, au, ao⟩ := hL.sm
  clear hB
  by_cases hz : 30000 < s.size
  ·simp (maxSteps := 2000000) (disch := omega) only [go_sem, seval, reduceCtorEq]
   refine Cont.mk (wakesY_c _) ?_
   simp (maxSteps := 2000000) (disch := omega) only [go_sem, seval, reduceCtorEq]
   exact out rfl
  have h1 := encode_c hf sa kf.1 kf.2
  have hsm : ∀ H, ACalls Try.prog 22 [f.av, f.av] H fun v H' => v = bv true ∧ H' = H := fun H => (rsame_c hf hf H).mono fun v H' h => ⟨by have := cdec_of h.1; rw [cdec_t rfl] at this; exact this, h.2⟩
  have h2 := hd s (by omega)
  have tail : ∀ g, encV g = [sv s, iv 0] → FcR s g → ∀ H, ACalls Try.prog 27 [g.av] H fun v H' => v = .tup [sv s, iv 0] ∧ H' = H := fun g e hg H => by
   have := encode_c (hg.fin (by omega)) (hg.small (by omega)) hg.ky.1 hg.ky.2 H
   rw [e] at this
   exact this
  simp (maxSteps := 2000000) (disch := omega) only [Fc.cs, go_sem, seval, reduceCtorEq]
  refine Cont.mk (copy16_c sa au ao _) ?_
  simp (maxSteps := 2000000) (disch := omega) only [go_sem, seval, reduceCtorEq]
  rcases encV_cases f with ⟨t, e1, _, _, _, et⟩ | ⟨e, he, e1⟩ <;> rcases decV_cases s with ⟨g, hg, e2, e3⟩ | ⟨_, e3⟩
  ·have h3 := hd t (by omega)
   rw [decV_yes kf e1] at h3
   have h4 := tail g e2 hg
   rw [e1] at h1
   rw [e3] at h2
   refine Cont.mk (h1 _) ?_
   simp (maxSteps := 2000000) (disch := omega) only [go_sem, seval, reduceCtorEq]
   refine Cont.mk (h3 _) ?_
   simp (maxSteps := 2000000) (disch := omega) only [Fc.cs, go_sem, seval, reduceCtorEq]
   refine Cont.mk (hsm _) ?_
   simp (maxSteps := 2000000) (disch := omega) only [go_sem, seval, reduceCtorEq]
   refine Cont.mk (h2 _) ?_
   simp (maxSteps := 2000000) (disch := omega) only [Fc.cs, go_sem, seval, reduceCtorEq]
   refine Cont.mk (h4 _) ?_
   simp (maxSteps := 2000000) (disch := omega) only [go_sem, seval, reduceCtorEq]
   refine Cont.mk (wakesY_c _) ?_
   simp (maxSteps := 2000000) (disch := omega) only [go_sem, seval, reduceCtorEq]
   exact out rfl
  ·have h3 := hd t (by omega)
   rw [decV_yes kf e1] at h3
   rw [e1] at h1
   rw [e3] at h2
   refine Cont.mk (h1 _) ?_
   simp (maxSteps := 2000000) (disch := omega) only [go_sem, seval, reduceCtorEq]
   refine Cont.mk (h3 _) ?_
   simp (maxSteps := 2000000) (disch := omega) only [Fc.cs, go_sem, seval, reduceCtorEq]
   refine Cont.mk (hsm _) ?_
   simp (maxSteps := 2000000) (disch := omega) only [go_sem, seval, reduceCtorEq]
   refine Cont.mk (h2 _) ?_
   simp (maxSteps := 2000000) (disch := omega) only [zF, Fc.cs, go_sem, seval, reduceCtorEq]
   refine Cont.mk (wakesY_c _) ?_
   simp (maxSteps := 2000000) (disch := omega) only [go_sem, seval, reduceCtorEq]
   exact out rfl
  ·have h4 := tail g e2 hg
   rw [e1] at h1
   rw [e3] at h2
   refine Cont.mk (h1 _) ?_
   simp (maxSteps := 2000000) (disch := omega) only [he, go_sem, seval, reduceCtorEq]
   refine Cont.mk (h2 _) ?_
   simp (maxSteps := 2000000) (disch := omega) only [Fc.cs, go_sem, seval, reduceCtorEq]
   refine Cont.mk (h4 _) ?_
   simp (maxSteps := 2000000) (disch := omega) only [go_sem, seval, reduceCtorEq]
   refine Cont.mk (wakesY_c _) ?_
   simp (maxSteps := 2000000) (disch := omega) only [go_sem, seval, reduceCtorEq]
   exact out rfl
  ·rw [e1] at h1
   rw [e3] at h2
   refine Cont.mk (h1 _) ?_
   simp (maxSteps := 2000000) (disch := omega) only [he, go_sem, seval, reduceCtorEq]
   refine Cont.mk (h2 _) ?_
   simp (maxSteps := 2000000) (disch := omega) only [zF, Fc.cs, go_sem, seval, reduceCtorEq]
   refine Cont.mk (wakesY_c _) ?_
   simp (maxSteps := 2000000) (disch := omega) only [go_sem, seval, reduceCtorEq]
   exact out rfl
theorem SymfileKeys_c (hd : DecC) {f : Fc} (hf : FIn f) (kf : KeyP f) (key : Int) (k0 : 0 ≤ key ∧ key < 4294967296) (H : List ABlk) : ACalls Try.prog 13 [f.av, wv key] H fun v H' => v = bv true ∧ H' = H := by
 refine ACalls.into Try.func13 cc13 rr13 fun hcl => ?_
 have out : ∀ {b : Bool} {l : List ABlk}, b = true → Ret r13 H.length (fun v H' => v = bv true ∧ H' = H) (some (bv b)) (H ++ l) := fun {b l} h =>
  Ret.drop _ H (Nat.le_refl _) hcl (.rfl _) (by simp [refs]) ⟨by rw [h], rfl⟩
 simp (maxSteps := 2000000) (disch := omega) only [Try.ntmps13, c13, r13, Fc.cs, go_sem, seval, reduceCtorEq]
 refine Cont.rel (large16_c hf _) ?_
 rintro v H' ⟨⟨B, rfl, hB⟩, rfl⟩
 cases hBv : B with
 | true =>
  simp (maxSteps := 2000000) (disch := omega) only [go_sem, seval, reduceCtorEq]
  refine Cont.mk (wakesY_c _) ?_
  simp (maxSteps := 2000000) (disch := omega) only [go_sem, seval, reduceCtorEq]
  exact out rfl
 | false =>
  have hL := hB.1 hBv
  obtain ⟨sa, au, ao⟩ := hL.sm
  clear hB
  have hk1 := key_c hf sa kf.2
  have hk2 := key_c (keyF_in hf key) (f := keyF f key) sa kf.2
  have hcp : ∀ H, ACalls Try.prog 16 [(keyF f key).av] H fun v H' => v = (keyF f key).av ∧ H' = H := fun H => copy16_c (f := keyF f key) sa au ao H
  rw [keyV_keyF] at hk2
  simp (maxSteps := 2000000) (disch := omega) only [Fc.cs, go_sem, seval, reduceCtorEq]
  refine Cont.mk (copy16_c sa au ao _) ?_
  simp (maxSteps := 2000000) (disch := omega) only [Fc.cs, go_sem, seval, reduceCtorEq]
  rcases key_cases f with ⟨s0, k, e0, k1, ek⟩ | ⟨e, he, ek⟩
  ·obtain ⟨t, et⟩ := encV_keyF (f := keyF f 0) key e0
   rw [keyF_keyF] at et
   have h1 := encode_c (keyF_in hf key) (f := keyF f key) sa k0 kf.2
   rw [et] at h1
   have h3 := hd t (by have := enc_size et; omega)
   rw [decV_yes (f := keyF f key) ⟨k0, kf.2⟩ et] at h3
   rw [ek] at hk1 hk2
   simp only [keyF, Fc.cs] at hk2 hcp h1 h3
   refine Cont.mk (hk1 _) ?_
   simp (maxSteps := 2000000) (disch := omega) only [Fc.cs, go_sem, seval, reduceCtorEq]
   refine Cont.mk (copy16_c sa au ao _) ?_
   simp (maxSteps := 2000000) (disch := omega) only [Fc.cs, go_sem, seval, reduceCtorEq]
   refine Cont.mk (hcp _) ?_
   simp (maxSteps := 2000000) (disch := omega) only [Fc.cs, go_sem, seval, reduceCtorEq]
   refine Cont.mk (hk2 _) ?_
   simp (maxSteps := 2000000) (disch := omega) only [Fc.cs, go_sem, seval, reduceCtorEq]
   refine Cont.mk (h1 _) ?_
   simp (maxSteps := 2000000) (disch := omega) only [Fc.cs, go_sem, seval, reduceCtorEq]
   refine Cont.mk (h3 _) ?_
   simp (maxSteps := 2000000) (disch := omega) only [Fc.cs, go_sem, seval, reduceCtorEq]
   refine Cont.mk (hk2 _) ?_
   have kn : ¬ k = 0 := by omega
   simp (maxSteps := 2000000) (disch := omega) only [Fc.cs, decide_eq_false kn, kn, go_sem, seval, reduceCtorEq]
   refine Cont.mk (wakesY_c _) ?_
   simp (maxSteps := 2000000) (disch := omega) only [go_sem, seval, reduceCtorEq]
   exact out rfl
  ·rw [ek] at hk1 hk2
   simp only [keyF, Fc.cs] at hk2 hcp
   refine Cont.mk (hk1 _) ?_
   simp (maxSteps := 2000000) (disch := omega) only [Fc.cs, go_sem, seval, reduceCtorEq]
   refine Cont.mk (copy16_c sa au ao _) ?_
   simp (maxSteps := 2000000) (disch := omega) only [Fc.cs, go_sem, seval, reduceCtorEq]
   refine Cont.mk (hcp _) ?_
   simp (maxSteps := 2000000) (disch := omega) only [Fc.cs, go_sem, seval, reduceCtorEq]
   refine Cont.mk (hk2 _) ?_
   simp (maxSteps := 2000000) (disch := omega) only [Fc.cs, decide_eq_false he, he, go_sem, seval, reduceCtorEq]
   refine Cont.mk (wakesY_c _) ?_
   simp (maxSteps := 2000000) (disch := omega) only [go_sem, seval, reduceCtorEq]
   exact out rfl
theorem SymfileCuts_c (hd : DecC) {f : Fc} (hf : FIn f) (kf : KeyP f) (n : Int) (hn : J64 n) (m : Int) (m0 : 0 ≤ m ∧ m < 256) (H : List ABlk) : ACalls Try.prog 12 [f.av, iv n, .d (.v (.int .u8 m))] H fun v H' => v = bv true ∧ H' = H := by
 refine ACalls.into Try.func12 cc12 rr12 fun hcl => ?_
 have out : ∀ {b : Bool} {l : List ABlk}, b = true → Ret r12 H.length (fun v H' => v = bv true ∧ H' = H) (some (bv b)) (H ++ l) := fun {b l} h =>
  Ret.drop _ H (Nat.le_refl _) hcl (.rfl _) (by simp [refs]) ⟨by rw [h], rfl⟩
 simp (maxSteps := 2000000) (disch := omega) only [Try.ntmps12, c12, r12, Fc.cs, go_sem, seval, reduceCtorEq]
 refine Cont.rel (large16_c hf _) ?_
 rintro v H' ⟨⟨B, rfl, hB⟩, rfl⟩
 cases hBv : B with
 | true =>
  simp (maxSteps := 2000000) (disch := omega) only [go_sem, seval, reduceCtorEq]
  refine Cont.mk (wakesY_c _) ?_
  simp (maxSteps := 2000000) (disch := omega) only [go_sem, seval, reduceCtorEq]
  exact out rfl
 | false =>
  have hL := hB.1 hBv
  obtain ⟨sa, au, ao⟩ := hL.sm
  clear hB
  have h1 := encode_c hf sa kf.1 kf.2
  simp (maxSteps := 2000000) (disch := omega) only [Fc.cs, go_sem, seval, reduceCtorEq]
  refine Cont.mk (copy16_c sa au ao _) ?_
  simp (maxSteps := 2000000) (disch := omega) only [go_sem, seval, reduceCtorEq]
  rcases encV_cases f with ⟨s, e1, _, _, _, es⟩ | ⟨e, he, e1⟩
  ·rw [e1] at h1
   have hz := enc_ne e1
   have hne : ¬ s = ⟨#[]⟩ := fun h => by rw [h] at hz; exact absurd hz (by decide)
   have hs2 := enc_size e1
   obtain ⟨k, hk, he⟩ : ∃ k : Nat, k < s.size ∧ IntKind.i64.wrap ((IntKind.u64.wrap n).tmod s.size) = k := by
    have e : IntKind.u64.wrap n = n % 18446744073709551616 := by simp [IntKind.wrap, IntKind.bits, IntKind.signed]
    have h0 : 0 ≤ (IntKind.u64.wrap n).tmod s.size := by rw [e]; exact Int.tmod_nonneg _ (by omega)
    have h1 : (IntKind.u64.wrap n).tmod s.size < s.size := by rw [e, Int.tmod_eq_emod_of_nonneg (by omega)]; exact Int.emod_lt_of_pos _ (by omega)
    refine ⟨((IntKind.u64.wrap n).tmod s.size).toNat, by omega, ?_⟩
    rw [w_i64 (by omega) (by omega)]; omega
   have hk0 : (0 : Int) ≤ k := by omega
   have hk1 : (k : Int) ≤ s.size := by omega
   have h2 := hd (s.extract 0 k) (by rw [ex_size _ _ _ (by omega)]; omega)
   rw [dec_cut kf e1 (rest := s.data.toList.drop k) (by rw [ex_list, List.drop_zero, Nat.sub_zero, List.take_append_drop]) (fun h => by
    have := congrArg List.length h
    rw [List.length_drop, len_data, List.length_nil] at this
    omega)] at h2
   refine Cont.mk (h1 _) ?_
   simp (maxSteps := 2000000) (disch := omega) only [decide_eq_false hne, hne, he, hk0, hk1, and_self, Int.toNat_natCast, go_sem, seval, reduceCtorEq]
   refine Cont.mk (h2 _) ?_
   have hby : bytesOf [[AV.d (Dat.v (Value.int IntKind.u8 m))]] = some [UInt8.ofNat m.toNat] := rfl
   have hmx : ¬ IntKind.i64.max < ((s.size + #[UInt8.ofNat m.toNat].size : Nat) : Int) := by
    rw [i64_max]
    show ¬ _ < ((s.size + 1 : Nat) : Int)
    omega
   have hap : (s ++ (⟨#[UInt8.ofNat m.toNat]⟩ : ByteArray)).data.toList = s.data.toList ++ [UInt8.ofNat m.toNat] := by
    rw [ByteArray.data_append, Array.toList_append]
   have h3 := hd (s ++ ⟨#[UInt8.ofNat m.toNat]⟩) (by rw [← len_data, hap, List.length_append, len_data]; show s.size + 1 ≤ _; omega)
   rw [dec_more kf e1 hap (by simp)] at h3
   simp (maxSteps := 2000000) (disch := omega) only [zF, Fc.cs, hby, hmx, go_sem, seval, reduceCtorEq]
   refine Cont.mk (h3 _) ?_
   simp (maxSteps := 2000000) (disch := omega) only [zF, Fc.cs, go_sem, seval, reduceCtorEq]
   refine Cont.mk (wakesY_c _) ?_
   simp (maxSteps := 2000000) (disch := omega) only [go_sem, seval, reduceCtorEq]
   exact out rfl
  ·rw [e1] at h1
   refine Cont.mk (h1 _) ?_
   simp (maxSteps := 2000000) (disch := omega) only [decide_eq_false he, he, go_sem, seval, reduceCtorEq]
   refine Cont.mk (wakesY_c _) ?_
   simp (maxSteps := 2000000) (disch := omega) only [go_sem, seval, reduceCtorEq]
   exact out rfl
end Go.Proofs.Ythifjndenhjobaa.Rid

/- SymfileKeys, of any arguments. -/
namespace Go.Proofs.Ythifjndenhjobaa
set_option linter.unusedVariables false
set_option linter.unusedSimpArgs false
open Go.ChangeShapes Go.WideShapes Go.ChangeAt Go.RowKit
theorem symfileKeys_any {a0 a1 : AV} (h0 : ArgD Try.prog 27 a0) (h1 : ArgD Try.prog 22 a1) (v0 v1 : Value) (W : World) (hv : VRs ⟨W.cell?, fun _ _ => none⟩ [a0, a1] [v0, v1]) :
 Calls Try.prog 13 #[v0, v1] W fun e w' => e = .returned (.bool true) ∧ Below W.heap.size W w' := by
 obtain ⟨f, rfl, hf, hk, hu, _⟩ := read_face h0
 obtain ⟨k, rfl, hkk⟩ := h1.int Try.underlying22
 exact (Rid.SymfileKeys_c (fun s hs H => Rid.decode_c s hs H) hf ⟨hk, hu⟩ k (wf_u32 hkk) []).law (fun a v h => h) hv
end Go.Proofs.Ythifjndenhjobaa

/- The row SymfileKeys, proved. -/
namespace Go.Proofs.Ythifjndenhjobaa
set_option linter.unusedVariables false
set_option linter.unusedSimpArgs false
open Go.ChangeShapes Go.WideShapes Go.ChangeAt Go.RowKit

set_option maxRecDepth 100000 in
theorem symfileKeys_lifted (os : Os) (started : os.Started) (H : Type) (enc : TypeId × Value → H) :
 ReturnsInHanded {} Try.checked os 13 .any (Rows.symfileKeysSpec.pre6 enc Try.prog Try.f13 Rows.symfileKeysRow.domain false) (Rows.symfileKeysSpec.post enc Try.prog Try.f13 false true false false) := by
 refine returnsInHanded_of_change_sized (C := Try.checked) Try.own started (by kernel_rfl) Try.func13
  (ChangeSpec.witness6 (enc := enc) (C := Try.checked) false ⟨#[], #[.agg #[.string ⟨#[]⟩, .int .u32 0, .slice none 0 0, .slice none 0 0, .slice none 0 0], .int .u32 0], []⟩ 8 (by kernel_rfl) (by kernel_rfl) (by kernel_rfl) (by kernel_rfl)) ?_
 intro W base args ds gs before hval0 hW hcnd hsz _
 have hval : ∀ (j : Nat) t v, Try.f13.params[j]? = some t → args[j]? = some v → Value.okWide Try.prog W .any base t v := hval0
 have hW' := hW
 obtain ⟨p, q, hA0, hV, rfl, hfz, hnd⟩ := hW
 have hA : DataW.TrodAll enc Try.prog W 0 (fun _ => true) true Try.f13.params.toList args.toList ds p := hA0
 rw [Try.params13] at hA hval hsz
 obtain ⟨v0, v1, d0, d1, p0, p1, rfl, rfl, rfl, h0, h1⟩ := trodAll_two hA
 obtain ⟨rfl, rfl⟩ := trodVars_none hV
 obtain ⟨a0, ha0, hr0⟩ := read_val argL_ok (by decide) (hval 0 27 v0 rfl rfl) h0 (fun n hn => of_decide_eq_true (List.all_eq_true.1 hsz n (DataW.weights_mem_each (j := 0) rfl rfl n hn)))
 obtain ⟨a1, ha1, hr1⟩ := read_val argL_ok (by decide) (hval 1 22 v1 rfl rfl) h1 (fun n hn => of_decide_eq_true (List.all_eq_true.1 hsz n (DataW.weights_mem_each (j := 1) rfl rfl n hn)))
 clear hA0 hval0
 simp only [List.append_nil] at hW'
 have hlt := hW'.lt
 refine (symfileKeys_any ha0 ha1 v0 v1 W (.cons hr0 (.cons hr1 .nil))).mono fun e W' ⟨he, hw⟩ => ?_
 subst he
 exact ⟨_, rfl, post_of_below (pa := p0 ++ p1) (pv := []) hW' (fun _ _ _ => trodAll_mk1 (shut_bool Try.underlying4 _)) (fun sp hsp => trodAll_mk2 (WideElems.Trod_stays Try.laidOut (by kernel_rfl) (of_decide_eq_true (by kernel_rfl)) h0 (fun x hx => hw.same (hlt x (by simp [hx]))) (fun x hx => hsp x (by simp [hx]))) (WideElems.Trod_stays Try.laidOut (by kernel_rfl) (of_decide_eq_true (by kernel_rfl)) h1 (fun x hx => hw.same (hlt x (by simp [hx]))) (fun x hx => hsp x (by simp [hx])))) (fun _ _ => rfl) (by simp)
  hw (ok_one (by kernel_rfl) rfl (okWide_bool_mk Try.underlying4 _))⟩

theorem symfileKeys_holds : Rows.SymfileKeysSaid :=
 OpenClaim.holds_of_wide 13 Try.f13 rfl rfl rfl rfl rfl rfl rfl ⟨rfl, rfl, rfl, rfl, rfl⟩ rfl rfl rfl rfl rfl (by kernel_rfl) Try.func13 (by kernel_rfl)
  (of_decide_eq_true (by kernel_rfl)) (by unfold Func.isWrapper; first | (rw [if_pos (by decide +kernel)]; kernel_rfl) | (rw [if_neg (by decide +kernel)]; exact ⟨rfl, rfl⟩))
  (fun os started H enc _ => symfileKeys_lifted os started H enc)
end Go.Proofs.Ythifjndenhjobaa
