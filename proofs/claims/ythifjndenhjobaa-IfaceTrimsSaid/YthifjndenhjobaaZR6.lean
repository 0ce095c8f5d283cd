/- The reference's Trim: places; what stands in blocks, frozen. -/
import Derived.Test.YthifjndenhjobaaZR3
import Derived.Test.YthifjndenhjobaaZJ9
namespace Go.Proofs.Ythifjndenhjobaa
set_option linter.unusedSimpArgs false
set_option linter.unusedVariables false
set_option maxRecDepth 20000
set_option maxHeartbeats 4000000
open Go.RowKit

def c44 : AC :=
 .seq (.reg [kn 4 (.mv (kc 0))])
 (.seq (.seq (.reg [kn 5 (.mv (.t 1)), kn 6 (.bin .lss (.t 5) (kc 7))])
 (.cond (.t 6) (.seq (.reg [kn 7 (.mv (.t 1)), kn 4 (.mv (.t 7))])
 (.ret)) (.skip)))
 (.seq (.reg [kn 8 (.mv (.t 0)), kn 9 (.nc (.t 8)), kn 10 (.fa (.t 9) 1), kn 11 (.ld (.t 10) 1 false), kn 12 (.mv (.t 1)), kn 13 (.ia (.t 11) (.t 12) 1), kn 14 (.ld (.t 13) 1 false), kn 4 (.mv (.t 14))])
 (.ret)))
def r44 : List RC := [.t 4]

theorem cc44 : Try.f44.body.bind (comp Try.prog (hhI 44)) = some c44 := by kernel_rfl
theorem rr44 : resC Try.prog Try.f44 = some r44 := by kernel_rfl
theorem turned_c {o : List Int} {n kb qb : Nat} {V W : AV} {H : List ABlk} {a : Int} (hk : H[kb]? = some (.cells [W, .hsl qb 0 n n 1, V])) (hq : H[qb]? = some (.cells (plR o n))) (h0 : 0 ≤ a) (h1 : a < n) (h : a < 7 ∨ a ∈ o) :
 ACalls Try.prog 44 [.ptr kb 0, iv a] H fun v H' => v = iv (pl o a) ∧ H' = H := by
 refine ACalls.into Try.func44 cc44 rr44 fun hcl => ?_
 by_cases h7 : a < 7
 ·simp (maxSteps := 2000000) (disch := omega) only [Try.ntmps44, c44, r44, h7, decide_true, go_sem, seval, reduceCtorEq]
  exact Ret.keep ⟨by rw [pl_lt h7], rfl⟩
 ·have hm : a ∈ o := h.resolve_left h7
  have e1 := plR_at (o := o) (n := n) (a := a.toNat) (by omega)
  rw [show ((a.toNat : Nat) : Int) = a by omega, if_pos hm] at e1
  have ql := plR_len o n
  have hl : a.toNat + 1 ≤ n := by omega
  simp (maxSteps := 2000000) (disch := omega) only [Try.ntmps44, c44, r44, h7, decide_false, hk, hq, ql, hl, take1_at e1, go_sem, seval, reduceCtorEq]
  exact Ret.keep ⟨rfl, rfl⟩
def mOb (o : List Int) (l : List Ob) (i : Nat) : List Ob := (l.take i).map (trimO o) ++ l.drop i
def obB (x : Ob) : List AV := x.c.map .d
theorem obC_B (l : List Ob) : obC l = (l.map obB).flatten := by simp [obB, List.map_flatten]; rfl
theorem obB_all (l : List Ob) : ∀ x ∈ l.map obB, x.length = 7 := fun x hx => by obtain ⟨y, _, rfl⟩ := List.mem_map.1 hx; rfl
theorem obC_len (l : List Ob) : (obC l).length = l.length * 7 := by rw [obC_B, flt_len (obB_all l), List.length_map]
theorem mOb_n (o : List Int) (l : List Ob) : mOb o l l.length = l.map (trimO o) := by simp [mOb]
theorem mOb_len (o : List Int) (l : List Ob) (i : Nat) : (mOb o l i).length = l.length := by simp [mOb]; omega
section
variable {o : List Int} {i : Nat} {l : List Ob}
theorem mOb_cut (hi : i < l.length) : (mOb o l i).map obB = (((l.take i).map (trimO o)).map obB) ++ obB l[i] :: ((l.drop (i + 1)).map obB) := by
 rw [mOb, List.drop_eq_getElem_cons hi, List.map_append, List.map_cons]
theorem mOb_s (hi : i < l.length) : (mOb o l (i + 1)).map obB = (((l.take i).map (trimO o)).map obB) ++ obB (trimO o l[i]) :: ((l.drop (i + 1)).map obB) := by
 rw [mOb, List.take_succ_eq_append_getElem hi, List.map_append, List.map_append, List.map_append, List.append_assoc]; rfl
theorem ob_at (hi : i < l.length) : ((obC (mOb o l i)).drop (i * 7 + 2)).take 1 = [iv ((l.map Ob.typ).getD i 0)] := by
 have h := flt_at (l2 := (l.drop (i + 1)).map obB) (e := obB l[i]) (j := 2) (obB_all ((l.take i).map (trimO o))) (show 2 < 7 by omega)
 rw [← mOb_cut hi, List.length_map, List.length_map, List.length_take, Nat.min_eq_left (by omega)] at h
 rw [obC_B, h, typ_at _ hi]; rfl
theorem ob_set (hi : i < l.length) : (obC (mOb o l i)).take (i * 7 + 2) ++ [iv (pl o ((l.map Ob.typ).getD i 0))] ++ (obC (mOb o l i)).drop (i * 7 + 2 + 1) = obC (mOb o l (i + 1)) := by
 have h := flt_set (l2 := (l.drop (i + 1)).map obB) (e := obB l[i]) (j := 2) (iv (pl o ((l.map Ob.typ).getD i 0))) (obB_all ((l.take i).map (trimO o))) (show 2 < 7 by omega)
 rw [← mOb_cut hi, List.length_map, List.length_map, List.length_take, Nat.min_eq_left (by omega)] at h
 rw [obC_B, obC_B, mOb_s hi, h, typ_at _ hi]; rfl
end
theorem tab_fz {F : Nat → Prop} {H : List ABlk} {t : List Ty} {tb : Nat} {fb pb : Nat → Nat} (hF : F tb) (ht : H[tb]? = some (.cells (tcR t fb pb))) (hf : ∀ a, a < t.length → F (fb a) ∧ H[fb a]? = some (.cells (fdC (t.getD a default).fields)))
 (hp : ∀ a, a < t.length → F (pb a) ∧ H[pb a]? = some (.cells (pmC (t.getD a default).params))) : Fz F H (.hsl tb 0 t.length t.length 10) (.sl (t.map Ty.c)) := by
 refine .hsl hF ht (by simp) (fun e he => by obtain ⟨y, _, rfl⟩ := List.mem_map.1 he; rfl) (by rw [tcR_len]; omega) fun i e j d h1 h2 => ?_
 have hi : i < t.length := by have := (List.getElem?_eq_some_iff.1 h1).1; simpa using this
 obtain ⟨x, hx⟩ : ∃ x, t.getD i default = x := ⟨_, rfl⟩
 have hxe : t[i]? = some x := by rw [← hx, List.getD_eq_getElem?_getD, List.getElem?_eq_getElem hi]; rfl
 rw [List.getElem?_map, hxe] at h1
 cases h1
 have hj : j < 10 := (List.getElem?_eq_some_iff.1 h2).1
 have ha := tcR_at (fb := fb) (pb := pb) hi
 rw [hx] at ha
 have e : (tcR t fb pb).getD (0 + i * 10 + j) .any = (tkR x (fb i) (pb i)).getD j .any := by
  rw [← ha, List.getD_eq_getElem?_getD, List.getD_eq_getElem?_getD, List.getElem?_take, if_pos hj, List.getElem?_drop, Nat.zero_add]
 rw [e]
 obtain ⟨f1, f2⟩ := hf i hi
 obtain ⟨p1, p2⟩ := hp i hi
 rw [hx] at f2 p2
 have hfz : Fz F H (.hsl (fb i) 0 x.fields.length x.fields.length 3) (.sl (x.fields.map Fd.c)) := by
  refine .hsl f1 f2 (by simp) (fun e he => by obtain ⟨y, _, rfl⟩ := List.mem_map.1 he; rfl) (by rw [fdC_len]; omega) fun i e j d h1 h2 => ?_
  rw [Nat.zero_add, flt_d (fun e he => by obtain ⟨y, _, rfl⟩ := List.mem_map.1 he; rfl) h1 h2]
  exact .d
 have hpz : Fz F H (.hsl (pb i) 0 x.params.length x.params.length 2) (.sl (x.params.map Pm.c)) := by
  refine .hsl p1 p2 (by simp) (fun e he => by obtain ⟨y, _, rfl⟩ := List.mem_map.1 he; rfl) (by rw [pmC_len]; omega) fun i e j d h1 h2 => ?_
  rw [Nat.zero_add, flt_d (fun e he => by obtain ⟨y, _, rfl⟩ := List.mem_map.1 he; rfl) h1 h2]
  exact .d
 rcases (by omega : j = 0 ∨ j = 1 ∨ j = 2 ∨ j = 3 ∨ j = 4 ∨ j = 5 ∨ j = 6 ∨ j = 7 ∨ j = 8 ∨ j = 9) with rfl | rfl | rfl | rfl | rfl | rfl | rfl | rfl | rfl | rfl <;> cases h2 <;> first | exact .d | exact hfz | exact hpz
theorem obs_fz {F : Nat → Prop} {H : List ABlk} {l : List Ob} {ob : Nat} (hF : F ob) (ho : H[ob]? = some (.cells (obC l))) : Fz F H (.hsl ob 0 l.length l.length 7) (.sl (l.map Ob.c)) := by
 refine .hsl hF ho (by simp) (fun e he => by obtain ⟨y, _, rfl⟩ := List.mem_map.1 he; rfl) (by rw [obC_len]; omega) fun i e j d h1 h2 => ?_
 rw [Nat.zero_add, flt_d (fun e he => by obtain ⟨y, _, rfl⟩ := List.mem_map.1 he; rfl) h1 h2]
 exact .d
theorem rvisits {t : List Ty} (hg : GoodP t) (hs : Small t) {l o' : List Int} (h : Vis (kidsV t) [] l o') (hl : ∀ a ∈ l, 0 ≤ a ∧ a < t.length) : Vs (RVC t) (kidsV t) [] l o' :=
 vs_of (n := (t.length : Int)) (fun a h7 h1 k hk => hg.kidV (by omega) h1 hk) (fun h0 h1 h2 _ h3 => rvisit0_c hg.len.2 h0 h1 h2 h3) (fun h1 h2 h3 h4 h5 h6 => rbody_c hg.len.2 hs h1 h2 h3 h4 h5 h6) h hl (fun x hx => by cases hx) List.nodup_nil
end Go.Proofs.Ythifjndenhjobaa

/- The reference's Trim: a round of its second loop. -/
namespace Go.Proofs.Ythifjndenhjobaa
set_option linter.unusedSimpArgs false
set_option linter.unusedVariables false
set_option maxRecDepth 20000
set_option maxHeartbeats 4000000
open Go.RowKit

def c24rl0 : AC :=
 .seq (.seq (.reg [kn 144 (.mv (.t 13)), kn 145 (.fa (.t 11) 7), kn 146 (.ld (.t 145) 1 false), kn 147 (.len false (.t 146)), kn 148 (.bin .lss (.t 144) (.t 147))])
 (.cond (.t 148) (.skip) (.exit 8)))
 (.seq (.block 9 (.dreg [[], [0], [], [], [], [4], [], [5, 6], [7], [8], [3, 9], [1, 2, 0, 1, 2, 3, 4, 5, 6, 7, 8, 9, 10], [11, 0, 1, 2, 3, 4, 5, 6, 7, 8, 9, 10], [12, 10, 10, 0, 1, 2, 3, 4, 5, 6, 7, 8, 9, 10]] [kn 151 (.fa (.t 11) 7), kn 152 (.ld (.t 151) 1 false), kn 153 (.mv (.t 13)), kn 154 (.mv (.t 6)), kn 155 (.fa (.t 11) 7), kn 156 (.ld (.t 155) 1 false), kn 157 (.mv (.t 13)), kn 158 (.ia (.t 156) (.t 157) 2), kn 159 (.fa (.t 158) 1), kn 160 (.ld (.t 159) 1 false), kn 161 (.call 44 [(.t 154), (.t 160)]), kn 162 (.ia (.t 152) (.t 153) 2), kn 163 (.fa (.t 162) 1), ke (.st (.t 163) (.t 161) 1)]))
 (.reg [kn 149 (.mv (.t 13)), kn 150 (.bin .add (.t 149) (kc 1)), kn 13 (.mv (.t 150))]))

def c24rl1 : AC :=
 .seq (.seq (.reg [kn 124 (.mv (.t 12)), kn 125 (.fa (.t 11) 6), kn 126 (.ld (.t 125) 1 false), kn 127 (.len false (.t 126)), kn 128 (.bin .lss (.t 124) (.t 127))])
 (.cond (.t 128) (.skip) (.exit 6)))
 (.seq (.block 7 (.dreg [[], [0], [], [], [], [4], [], [5, 6], [7], [8], [3, 9], [1, 2, 0, 1, 2, 3, 4, 5, 6, 7, 8, 9, 10], [11, 0, 1, 2, 3, 4, 5, 6, 7, 8, 9, 10], [12, 10, 10, 0, 1, 2, 3, 4, 5, 6, 7, 8, 9, 10]] [kn 131 (.fa (.t 11) 6), kn 132 (.ld (.t 131) 1 false), kn 133 (.mv (.t 12)), kn 134 (.mv (.t 6)), kn 135 (.fa (.t 11) 6), kn 136 (.ld (.t 135) 1 false), kn 137 (.mv (.t 12)), kn 138 (.ia (.t 136) (.t 137) 3), kn 139 (.fa (.t 138) 2), kn 140 (.ld (.t 139) 1 false), kn 141 (.call 44 [(.t 134), (.t 140)]), kn 142 (.ia (.t 132) (.t 133) 3), kn 143 (.fa (.t 142) 2), ke (.st (.t 143) (.t 141) 1)]))
 (.reg [kn 129 (.mv (.t 12)), kn 130 (.bin .add (.t 129) (kc 1)), kn 12 (.mv (.t 130))]))

def c24rl2 : AC :=
 .seq (.seq (.reg [kn 89 (.mv (.t 10)), kn 90 (.mv (.t 6)), kn 91 (.nc (.t 90)), kn 92 (.fa (.t 91) 2), kn 93 (.ld (.t 92) 1 false), kn 94 (.len false (.t 93)), kn 95 (.bin .lss (.t 89) (.t 94))])
 (.cond (.t 95) (.skip) (.exit 4)))
 (.seq (.block 5 (.seq (.dreg [[], [0], [], [2], [3], [4], [], [5, 6], [7], [1, 8], [9], [], [11, 10, 0, 1, 2, 3, 4, 5, 6, 7, 8, 9, 10, 11]] [kn 98 (.fa (.t 1) 3), kn 99 (.ld (.t 98) 1 false), kn 100 (.mv (.t 6)), kn 101 (.nc (.t 100)), kn 102 (.fa (.t 101) 2), kn 103 (.ld (.t 102) 1 false), kn 104 (.mv (.t 10)), kn 105 (.ia (.t 103) (.t 104) 1), kn 106 (.ld (.t 105) 1 false), kn 107 (.ia (.t 99) (.t 106) 10), kn 108 (.ld (.t 107) 10 true), kn 11 (.al [kz, (.d (.v (.string ⟨#[]⟩))), (.d (.v (.string ⟨#[]⟩))), kz, kz, kz, .esl, .esl, kz, kz]), ke (.st (.t 11) (.t 108) 10)])
 (.seq (.dreg [[], [], [1], [0, 2], [], [], [5], [4, 6, 3], [], [], [9], [8, 10, 7], [0, 1, 2, 3, 5, 6, 9, 10], [12, 3, 11, 0, 1, 2, 3, 5, 6, 9, 10], [0, 1, 2, 3, 4, 5, 6, 7, 9, 10, 12, 13], [14, 7, 13, 0, 1, 2, 3, 4, 5, 6, 7, 9, 10, 12, 13], [0, 1, 2, 3, 4, 5, 6, 7, 8, 9, 10, 11, 12, 13, 14, 15], [16, 11, 15, 0, 1, 2, 3, 4, 5, 6, 7, 8, 9, 10, 11, 12, 13, 14, 15]] [kn 109 (.mv (.t 6)), kn 110 (.fa (.t 11) 4), kn 111 (.ld (.t 110) 1 false), kn 112 (.call 44 [(.t 109), (.t 111)]), kn 113 (.mv (.t 6)), kn 114 (.fa (.t 11) 5), kn 115 (.ld (.t 114) 1 false), kn 116 (.call 44 [(.t 113), (.t 115)]), kn 117 (.mv (.t 6)), kn 118 (.fa (.t 11) 8), kn 119 (.ld (.t 118) 1 false), kn 120 (.call 44 [(.t 117), (.t 119)]), kn 121 (.fa (.t 11) 4), ke (.st (.t 121) (.t 112) 1), kn 122 (.fa (.t 11) 5), ke (.st (.t 122) (.t 116) 1), kn 123 (.fa (.t 11) 8), ke (.st (.t 123) (.t 120) 1)])
 (.seq (.seq (.reg [kn 12 (.mv (kc 0))])
 (.block 6 (.loop c24rl1)))
 (.seq (.seq (.reg [kn 13 (.mv (kc 0))])
 (.block 8 (.loop c24rl0)))
 (.seq (.seq (.reg [kn 164 (.fa (.t 11) 0), kn 165 (.ld (.t 164) 1 false), kn 166 (.bin .eql (.t 165) (kc 9)), kn 167 (.mv (.t 166)), ky 168 167 (.fa (.t 11) 1), ky 169 167 (.ld (.t 168) 1 false), ky 170 167 (.fa (.t 1) 0), ky 171 167 (.ld (.t 170) 1 false), ky 172 167 (.bin .eql (.t 169) (.t 171)), kn 173 (.pick (.t 167) (.t 172) (.c (.d (.v (.bool false)))))])
 (.cond (.t 173) (.seq (.reg [kn 174 (.mv (.t 9)), kn 175 (.fa (.t 11) 9), ke (.st (.t 175) (.t 174) 1)])
 (.reg [kn 176 (.mv (.t 9)), kn 177 (.bin .add (.t 176) (kc 1)), kn 9 (.mv (.t 177))])) (.skip)))
 (.reg [kn 178 (.mv (.t 8)), kn 179 (.ld (.t 11) 10 true), kn 180 (.bs .hp 49 10 [(.t 179)]), kn 181 (.app .hp 49 10 128 (.t 178) (.t 180)), kn 8 (.mv (.t 181))])))))))
 (.reg [kn 96 (.mv (.t 10)), kn 97 (.bin .add (.t 96) (kc 1)), kn 10 (.mv (.t 97))]))

def c24rl3 : AC :=
 .seq (.seq (.reg [kn 56 (.mv (.t 7)), kn 57 (.fa (.t 1) 4), kn 58 (.ld (.t 57) 1 false), kn 59 (.len false (.t 58)), kn 60 (.bin .lss (.t 56) (.t 59))])
 (.cond (.t 60) (.skip) (.exit 2)))
 (.seq (.block 3 (.seq (.reg [kn 63 (.mv (.t 6)), kn 64 (.fa (.t 1) 4), kn 65 (.ld (.t 64) 1 false), kn 66 (.mv (.t 7)), kn 67 (.ia (.t 65) (.t 66) 7), kn 68 (.fa (.t 67) 2), kn 69 (.ld (.t 68) 1 false), kn 70 (.call 43 [(.t 63), (.t 69)])])
 (.dreg [[], [0], [], [], [], [4], [], [5, 6], [7], [8], [3, 9], [1, 2, 0, 1, 2, 3, 4, 5, 6, 7, 8, 9, 10], [11, 0, 1, 2, 3, 4, 5, 6, 7, 8, 9, 10], [12, 10, 10, 0, 1, 2, 3, 4, 5, 6, 7, 8, 9, 10]] [kn 71 (.fa (.t 1) 4), kn 72 (.ld (.t 71) 1 false), kn 73 (.mv (.t 7)), kn 74 (.mv (.t 6)), kn 75 (.fa (.t 1) 4), kn 76 (.ld (.t 75) 1 false), kn 77 (.mv (.t 7)), kn 78 (.ia (.t 76) (.t 77) 7), kn 79 (.fa (.t 78) 2), kn 80 (.ld (.t 79) 1 false), kn 81 (.call 44 [(.t 74), (.t 80)]), kn 82 (.ia (.t 72) (.t 73) 7), kn 83 (.fa (.t 82) 2), ke (.st (.t 83) (.t 81) 1)])))
 (.reg [kn 61 (.mv (.t 7)), kn 62 (.bin .add (.t 61) (kc 1)), kn 7 (.mv (.t 62))]))

def c24rl4 : AC :=
 .seq (.seq (.reg [kn 18 (.mv (.t 4)), kn 19 (.fa (.t 1) 3), kn 20 (.ld (.t 19) 1 false), kn 21 (.len false (.t 20)), kn 22 (.bin .lss (.t 18) (.t 21))])
 (.cond (.t 22) (.skip) (.exit 0)))
 (.seq (.block 1 (.seq (.reg [kn 25 (.fa (.t 1) 3), kn 26 (.ld (.t 25) 1 false), kn 27 (.mv (.t 4)), kn 28 (.ia (.t 26) (.t 27) 10), kn 29 (.ld (.t 28) 10 true), kn 5 (.al [kz, (.d (.v (.string ⟨#[]⟩))), (.d (.v (.string ⟨#[]⟩))), kz, kz, kz, .esl, .esl, kz, kz]), ke (.st (.t 5) (.t 29) 10)])
 (.seq (.reg [kn 30 (.fa (.t 5) 0), kn 31 (.ld (.t 30) 1 false), kn 32 (.bin .eql (.t 31) (kc 9)), kn 33 (.mv (.t 32)), ky 34 33 (.fa (.t 5) 1), ky 35 33 (.ld (.t 34) 1 false), ky 36 33 (.fa (.t 1) 0), ky 37 33 (.ld (.t 36) 1 false), ky 38 33 (.bin .neq (.t 35) (.t 37)), kn 39 (.pick (.t 33) (.t 38) (.c (.d (.v (.bool false))))), kn 40 (.mv (.t 39)), ky 41 40 (.fa (.t 5) 9), ky 42 40 (.ld (.t 41) 1 false), ky 43 40 (.bin .lss (.t 42) (kc 0)), kn 44 (.pick (.t 40) (.t 43) (.c (.d (.v (.bool false)))))])
 (.cond (.t 44) (.seq (.reg [kn 45 (.bd [(.d (.v (.string ⟨#[]⟩))), (.d (.v (.int .u32 0))), .esl, .esl, .esl] []), ke (.st (.t 2) (.t 45) 5), kn 3 (.mv (kc 160))])
 (.ret)) (.skip)))))
 (.reg [kn 23 (.mv (.t 4)), kn 24 (.bin .add (.t 23) (kc 1)), kn 4 (.mv (.t 24))]))

def c24r : AC :=
 .seq (.reg [kn 1 (.bx (.t 0)), kn 2 (.al [(.d (.v (.string ⟨#[]⟩))), (.d (.v (.int .u32 0))), .esl, .esl, .esl]), kn 3 (.mv (kc 0))])
 (.seq (.seq (.reg [kn 14 (.ld (.t 1) 5 true), kn 15 (.call 36 [(.t 14)]), kn 16 (.un .not (.t 15))])
 (.cond (.t 16) (.seq (.reg [kn 17 (.bd [(.d (.v (.string ⟨#[]⟩))), (.d (.v (.int .u32 0))), .esl, .esl, .esl] []), ke (.st (.t 2) (.t 17) 5), kn 3 (.mv (kc 160))])
 (.ret)) (.skip)))
 (.seq (.seq (.reg [kn 4 (.mv (kc 7))])
 (.block 0 (.loop c24rl4)))
 (.seq (.reg [kn 46 (.ld (.t 1) 5 true), kn 47 (.call 16 [(.t 46)]), ke (.st (.t 1) (.t 47) 5)])
 (.seq (.dreg [[], [0], [], [2], [3], [4, 4], [1, 5], [6], [7, 0, 1, 2, 3, 4, 5, 6, 7]] [kn 48 (.fa (.t 1) 3), kn 49 (.ld (.t 48) 1 false), kn 50 (.fa (.t 1) 3), kn 51 (.ld (.t 50) 1 false), kn 52 (.len false (.t 51)), kn 53 (.mks .hp 3 1 8 [kz] (.t 52) (.t 52)), kn 54 (.bd [.esl, .esl, .esl] [(0, 1, (.t 49)), (1, 1, (.t 53))]), kn 55 (.bx (.t 54)), kn 6 (.mv (.t 55))])
 (.seq (.seq (.reg [kn 7 (.mv (kc 0))])
 (.block 2 (.loop c24rl3)))
 (.seq (.reg [kn 84 (.bs .im 49 10 []), kn 85 (.fa (.t 1) 3), kn 86 (.ld (.t 85) 1 false), kn 87 (.sli false (.t 86) none (some (kc 7)) 10), kn 88 (.app .hp 49 10 128 (.t 84) (.t 87)), kn 8 (.mv (.t 88))])
 (.seq (.reg [kn 9 (.mv (kc 0))])
 (.seq (.seq (.reg [kn 10 (.mv (kc 0))])
 (.block 4 (.loop c24rl2)))
 (.seq (.seq (.reg [kn 182 (.mv (.t 9)), kn 183 (.bin .gtr (.t 182) (kc 64))])
 (.cond (.t 183) (.seq (.reg [kn 184 (.bd [(.d (.v (.string ⟨#[]⟩))), (.d (.v (.int .u32 0))), .esl, .esl, .esl] []), ke (.st (.t 2) (.t 184) 5), kn 3 (.mv (kc 160))])
 (.ret)) (.skip)))
 (.seq (.reg [kn 185 (.mv (.t 8)), kn 186 (.fa (.t 1) 3), ke (.st (.t 186) (.t 185) 1)])
 (.seq (.reg [kn 187 (.ld (.t 1) 5 true), ke (.st (.t 2) (.t 187) 5), kn 3 (.mv (kc 0))])
 (.ret))))))))))))
def r24r : List RC := [.c 2 5 true, .t 3]

theorem cc24r : Try.f24.body.bind (comp Try.prog (hhr 24)) = some c24r := by kernel_rfl
theorem rr24r : resC Try.prog Try.f24 = some r24r := by kernel_rfl
structure RH where
 i : Nat
 H : List ABlk
 cur : Nat
def XT (f : Fc) (o : List Int) (i a : Nat) : Ty := if (a : Int) ∈ o.take i then trnT o (f.types.getD a default) else f.types.getD a default
def tcV (f : Fc) (o : List Int) (fb pb : Nat → Nat) (i : Nat) : List AV := tcU f.types fb pb 7 ++ ((List.range i).map fun k => tkR (ntF f.name f.types o k) (fb (o.getD k 0).toNat) (pb (o.getD k 0).toNat)).flatten
theorem tcV_s (f : Fc) (o : List Int) (fb pb : Nat → Nat) (i : Nat) : tcV f o fb pb (i + 1) = tcV f o fb pb i ++ tkR (ntF f.name f.types o i) (fb (o.getD i 0).toNat) (pb (o.getD i 0).toNat) := by
 rw [tcV, List.range_succ, List.map_append, List.flatten_append, ← List.append_assoc]; simp [tcV]
theorem tcV_len (f : Fc) (o : List Int) (fb pb : Nat → Nat) (i : Nat) : (tcV f o fb pb i).length = (7 + i) * 10 := by
 rw [tcV, List.length_append, tcU_len, flt_len (sz := 10), List.length_map, List.length_range]
 ·omega
 ·intro x hx; obtain ⟨y, _, rfl⟩ := List.mem_map.1 hx; rfl
structure LS (f : Fc) (tb ob : Nat) (fb pb : Nat → Nat) (H0 : List ABlk) (q L0 : Nat) : Prop where
 nt : H0.length + 2 ≤ tb ∧ tb < q
 no : H0.length + 2 ≤ ob ∧ ob < q ∧ ob ≠ tb
 nf : ∀ a, a < f.types.length → H0.length + 2 ≤ fb a ∧ fb a < q ∧ fb a ≠ tb ∧ fb a ≠ ob
 np : ∀ a, a < f.types.length → H0.length + 2 ≤ pb a ∧ pb a < q ∧ pb a ≠ tb ∧ pb a ≠ ob
 ff : ∀ a a', fb a = fb a' → a = a'
 pp : ∀ a a', pb a = pb a' → a = a'
 fp : ∀ a a', fb a ≠ pb a'
 ql : q + 2 ≤ L0
structure LI (f : Fc) (o : List Int) (tb ob : Nat) (fb pb : Nat → Nat) (H0 : List ABlk) (q gq L0 : Nat) (g : RH) : Prop where
 hi : g.i ≤ o.length
 hk : g.H[q + 1]? = some (.cells [.hsl tb 0 f.types.length f.types.length 10, .hsl q 0 f.types.length f.types.length 1, ordA gq o])
 hq : g.H[q]? = some (.cells (plR o f.types.length))
 ht : g.H[tb]? = some (.cells (tcR f.types fb pb))
 hf : ∀ a, a < f.types.length → g.H[fb a]? = some (.cells (fdC (XT f o g.i a).fields))
 hp : ∀ a, a < f.types.length → g.H[pb a]? = some (.cells (pmC (XT f o g.i a).params))
 t1 : g.H[H0.length]? = some (ABlk.cells [sv f.name, wv f.key, usv f.uses, .hsl tb 0 f.types.length f.types.length 10, .hsl ob 0 f.objs.length f.objs.length 7])
 tz : g.H[H0.length + 1]? = some (.cells [sv se, .d (.v (.int .u32 0)), .esl, .esl, .esl])
 tob : g.H[ob]? = some (.cells (obC (f.objs.map (trimO o))))
 tlo : ∀ b, b < H0.length → g.H[b]? = H0[b]?
 tc : g.H[g.cur]? = some (.cells (tcV f o fb pb g.i))
 cu : L0 ≤ g.cur
def S2R (f : Fc) (o : List Int) (H0 : List ABlk) (q : Nat) (g : RH) : List AV :=
 [.any, .ptr H0.length 0, .ptr (H0.length + 1) 0, iv 0, .any, .any, .ptr (q + 1) 0, .any, .hsl g.cur 0 (7 + g.i) (7 + g.i) 10, iv ((o.take g.i).countP (own f.name f.types) : Nat), iv g.i] ++ List.replicate 177 .any
theorem ord_round {f : Fc} {o : List Int} {tb ob : Nat} {fb pb : Nat → Nat} {H0 : List ABlk} {q gq L0 : Nat} (hg : GoodP f.types) (hs : Small f.types) (ho : Ord f.types o) (hS : LS f tb ob fb pb H0 q L0) (nb : Nat) (Q : APost) (g : RH) (hI : LI f o tb ob fb pb H0 q gq L0 g) (hlt : g.i < o.length) :
 wpA Try.prog (hhr 24) nb c24rl2 (S2R f o H0 q g) g.H (APost.then (Nxt nb (fun g => o.length - g.i) (S2R f o H0 q) (fun g => g.H) (LI f o tb ob fb pb H0 q gq L0) (o.length - g.i)) Q) := by
 obtain ⟨i, G, cur⟩ := g
 obtain ⟨hi, hk, hq, ht, hf, hp, t1, tz, tob, tlo, tc, cu⟩ := hI
 simp only at hi hk hq ht hf hp t1 tz tob tlo tc cu hlt
 obtain ⟨a, hae⟩ : ∃ a, (o.getD i 0).toNat = a := ⟨_, rfl⟩
 have hrg := ho.rng _ (mem_getD hlt)
 have haI : o.getD i 0 = (a : Int) := by omega
 have ha : a < f.types.length := by omega
 have ha7 : 7 ≤ a := by omega
 obtain ⟨x, hx⟩ : ∃ x, f.types.getD a default = x := ⟨_, rfl⟩
 have hxt : tyAt f.types (o.getD i 0) = x := by rw [haI]; exact hx
 have hxm : x ∈ f.types := by rw [← hxt]; exact ho.at_mem hlt
 have hxs := hs.2 x hxm
 have hnot : ¬ (a : Int) ∈ o.take i := fun hm => by
  obtain ⟨j, hj, e⟩ := List.getElem_of_mem hm
  rw [List.getElem_take] at e
  have hj' : j < i := by rw [List.length_take] at hj; omega
  have := List.pairwise_iff_getElem.1 ho.nd j i (by omega) hlt hj'
  rw [← haI, List.getD_eq_getElem?_getD, List.getElem?_eq_getElem hlt] at e
  exact this e
 have hX : XT f o i a = x := by rw [XT, if_neg hnot, hx]
 obtain ⟨fa, hfa⟩ : ∃ fa, fb a = fa := ⟨_, rfl⟩
 obtain ⟨pa, hpa⟩ : ∃ pa, pb a = pa := ⟨_, rfl⟩
 have f0 := hf a ha
 have p0 := hp a ha
 rw [hX, hfa] at f0
 rw [hX, hpa] at p0
 have nf := hS.nf a ha
 have np := hS.np a ha
 have nfp := hS.fp a a
 rw [hfa] at nf nfp
 rw [hpa] at np nfp
 have nt := hS.nt
 have no := hS.no
 have nq := hS.ql
 have curl := (List.getElem?_eq_some_iff.1 tc).1
 have hnl := nodup_len ho.nd ho.rng
 have h256 := hg.len.2
 have mx : maxLen = 9223372036854775807 := mx_eq
 obtain ⟨es, hes⟩ : ∃ es, o.map (fun a => [Dat.v (.int .i64 a)]) = es := ⟨_, rfl⟩
 have hV : ordA gq o = .gsl gq 1 es := by
  cases ho' : o with
  | nil => rw [ho'] at hlt; cases hlt
  | cons b l => rw [← hes, ho']; rfl
 have les : es.length = o.length := by rw [← hes, List.length_map]
 have ia1 : iaA (.gsl gq 1 es) (i : Int) 1 = some (.ip [.v (.int .i64 (a : Int))]) := by
  have e : es.getD i [] = [.v (.int .i64 (a : Int))] := by
   rw [← hes, ← haI, List.getD_eq_getElem?_getD, List.getElem?_map, List.getElem?_eq_getElem hlt, List.getD_eq_getElem?_getD, List.getElem?_eq_getElem hlt]; rfl
  simp only [iaA]
  rw [if_pos ⟨by omega, by omega, trivial⟩, show ((i : Nat) : Int).toNat = i from rfl, e]
 rw [hV] at hk
 have hat := tcR_at (t := f.types) (fb := fb) (pb := pb) ha
 rw [hx, hfa, hpa, tkR] at hat
 have htl := tcR_len f.types fb pb
 have hal : a * 10 + 10 ≤ f.types.length * 10 := by omega
 have kn : kill [G.length] G = G := by rw [kill_c, List.set_eq_of_length_le (by omega), kill_0]
 have xg : ∀ k, (G ++ [k])[G.length]? = some k := fun k => List.getElem?_concat_length
 have xs : ∀ k k', (G ++ [k]).set G.length k' = G ++ [k'] := fun k k' => by rw [List.set_append_right _ _ (Nat.le_refl _), Nat.sub_self]; rfl
 have fr : ∀ k k', FrOk [G.length] [] (G ++ [k]) (G ++ [k']) (G ++ [k']) := fun k k' => by
  have := FrOk.set (w := [G.length]) (H := G ++ [k]) (b := G.length) (x := k') (by simp); rwa [xs] at this
 simp (maxSteps := 2000000) (disch := omega) only [S2R, c24rl2, hk, les, go_sem, seval, reduceCtorEq]
 refine W.dregD [([], [G.length]), ([], [G.length]), ([], [G.length]), ([], [G.length]), ([], [G.length]), ([], [G.length]), ([], [G.length]), ([], [G.length]), ([], [G.length]), ([], [G.length]), ([], [G.length]), ([G.length], []), ([G.length], [])] follows (by decide +kernel) rfl rfl (fun z hz b hb => ?_) ?_
 ·have hn : z.2 = [] ∧ G.length ≤ b := by
   simp only [List.mem_cons, List.not_mem_nil, or_false] at hz
   rcases hz with rfl | rfl | rfl | rfl | rfl | rfl | rfl | rfl | rfl | rfl | rfl | rfl | rfl <;> simp only [List.mem_cons, List.not_mem_nil, or_false] at hb <;> first | exact hb.elim | exact ⟨rfl, by omega⟩
  rw [hn.1, List.getElem?_eq_none hn.2]
  simp
 repeat (rw [DC_p]; simp (maxSteps := 2000000) (disch := omega) only [kn, t1, hk, ia1, ht, htl, hal, hat, go_sem, seval, reduceCtorEq])
 refine WStep.ev (fun _ _ e => by cases e) (fun _ _ e => by cases e) ?_
 try simp (maxSteps := 2000000) (disch := omega) only [go_sem, seval, reduceCtorEq]
 refine ⟨FrOk.app (u := []) (fun k hk => by simp at hk; simp [hk]) (by simp), ?_⟩
 try simp (maxSteps := 2000000) (disch := omega) only [go_sem, seval, reduceCtorEq]
 refine WStep.ev (fun _ _ e => by cases e) (fun _ _ e => by cases e) ?_
 try simp (maxSteps := 2000000) (disch := omega) only [xg, xs, go_sem, seval, reduceCtorEq]
 refine ⟨fr _ _, ?_⟩
 have kd : ∀ k ∈ kidsX x, (0 ≤ k ∧ k < (f.types.length : Int)) ∧ (k < 7 ∨ k ∈ o) := fun k hk => by
  have hk' : k ∈ kidsV f.types (o.getD i 0) := by rw [kidsV, hxt]; exact hk
  exact ⟨hg.kidV (by omega) hrg.2 hk', ho.cls _ (mem_getD hlt) k hk'⟩
 have ke := kd x.elem (by simp [kidsX])
 have kb := kd x.base (by simp [kidsX])
 have kr := kd x.result (by simp [kidsX])
 have kf : ∀ j, j < x.fields.length → _ := fun j hj => kd ((x.fields.map Fd.typ).getD j 0) (by
  rw [typ_at Fd.typ hj]; simp only [kidsX, List.mem_cons, List.mem_append, List.mem_map]; exact .inr (.inr (.inl ⟨_, List.getElem_mem hj, rfl⟩)))
 have kp : ∀ j, j < x.params.length → _ := fun j hj => kd ((x.params.map Pm.typ).getD j 0) (by
  rw [typ_at Pm.typ hj]; simp only [kidsX, List.mem_cons, List.mem_append, List.mem_map]; exact .inr (.inr (.inr (.inl ⟨_, List.getElem_mem hj, rfl⟩))))
 have tu := fun (l : List ABlk) (k : Int) (h : (0 ≤ k ∧ k < (f.types.length : Int)) ∧ (k < 7 ∨ k ∈ o)) => turned_c (H := G ++ l) (hold hk l) (hold hq l) h.1.1 h.1.2 h.2
 refine W.dregD [([], []), ([], []), ([], []), ([], []), ([], []), ([], []), ([], []), ([], []), ([], []), ([], []), ([], []), ([], []), ([], []), ([G.length], []), ([], []), ([G.length], []), ([], []), ([G.length], [])] follows (by decide +kernel) rfl rfl (fun z hz b hb => ?_) ?_
 ·simp only [List.mem_cons, List.not_mem_nil, or_false] at hz
  rcases hz with rfl | rfl | rfl | rfl | rfl | rfl | rfl | rfl | rfl | rfl | rfl | rfl | rfl | rfl | rfl | rfl | rfl | rfl <;> simp only [List.mem_cons, List.not_mem_nil, or_false] at hb <;> first | exact hb.elim | (subst hb; rw [xg]; simp)
 repeat (rw [DC_p]; simp (maxSteps := 2000000) (disch := omega) only [xg, go_sem, seval, reduceCtorEq])
 refine PCont.mk (tu _ _ ke) ?_
 simp (maxSteps := 2000000) (disch := omega) only [go_sem, seval, reduceCtorEq]
 repeat (rw [DC_p]; simp (maxSteps := 2000000) (disch := omega) only [xg, go_sem, seval, reduceCtorEq])
 refine PCont.mk (tu _ _ kb) ?_
 simp (maxSteps := 2000000) (disch := omega) only [go_sem, seval, reduceCtorEq]
 repeat (rw [DC_p]; simp (maxSteps := 2000000) (disch := omega) only [xg, go_sem, seval, reduceCtorEq])
 refine PCont.mk (tu _ _ kr) ?_
 simp (maxSteps := 2000000) (disch := omega) only [go_sem, seval, reduceCtorEq]
 repeat (rw [DC_p]; simp (maxSteps := 2000000) (disch := omega) only [go_sem, seval, reduceCtorEq])
 refine WStep.ev (fun _ _ e => by cases e) (fun _ _ e => by cases e) ?_
 try simp (maxSteps := 2000000) (disch := omega) only [xg, xs, go_sem, seval, reduceCtorEq]
 refine ⟨fr _ _, ?_⟩
 repeat (rw [DC_p]; simp (maxSteps := 2000000) (disch := omega) only [go_sem, seval, reduceCtorEq])
 refine WStep.ev (fun _ _ e => by cases e) (fun _ _ e => by cases e) ?_
 try simp (maxSteps := 2000000) (disch := omega) only [xg, xs, go_sem, seval, reduceCtorEq]
 refine ⟨fr _ _, ?_⟩
 repeat (rw [DC_p]; simp (maxSteps := 2000000) (disch := omega) only [go_sem, seval, reduceCtorEq])
 refine WStep.ev (fun _ _ e => by cases e) (fun _ _ e => by cases e) ?_
 try simp (maxSteps := 2000000) (disch := omega) only [xg, xs, go_sem, seval, reduceCtorEq]
 refine ⟨fr _ _, ?_⟩
 obtain ⟨cnt, hcnt⟩ : ∃ cnt : Nat, (o.take i).countP (own f.name f.types) = cnt := ⟨_, rfl⟩
 obtain ⟨P2, hP2⟩ : ∃ P2, G ++ [ABlk.cells [iv x.form, sv x.mod, sv x.name, iv x.len, iv (pl o x.elem), iv (pl o x.base), .hsl fa 0 x.fields.length x.fields.length 3, .hsl pa 0 x.params.length x.params.length 2, iv (pl o x.result), iv x.desc]] = P2 := ⟨_, rfl⟩
 have lP2 : P2.length = G.length + 1 := by rw [← hP2]; simp
 have x2 : P2[G.length]? = some (ABlk.cells [iv x.form, sv x.mod, sv x.name, iv x.len, iv (pl o x.elem), iv (pl o x.base), .hsl fa 0 x.fields.length x.fields.length 3, .hsl pa 0 x.params.length x.params.length 2, iv (pl o x.result), iv x.desc]) := by rw [← hP2]; exact xg _
 have up : ∀ {b : Nat} {k : ABlk}, G[b]? = some k → P2[b]? = some k := fun h => by rw [← hP2]; exact hold h _
 have fal : fa < G.length := (List.getElem?_eq_some_iff.1 f0).1
 have pal : pa < G.length := (List.getElem?_eq_some_iff.1 p0).1
 have tl2 : tb < G.length ∧ ob < G.length ∧ q + 1 < G.length := ⟨(List.getElem?_eq_some_iff.1 ht).1, (List.getElem?_eq_some_iff.1 tob).1, (List.getElem?_eq_some_iff.1 hk).1⟩
 obtain ⟨S1, hS1⟩ : ∃ S1 : Nat → List AV, ∀ j, S1 j = [.any, .ptr H0.length 0, .ptr (H0.length + 1) 0, iv 0, .any, .any, .ptr (q + 1) 0, .any, .hsl cur 0 (7 + i) (7 + i) 10, iv cnt, iv i, .ptr G.length 0, iv j] ++ List.replicate 175 .any := ⟨_, fun _ => rfl⟩
 refine W.loopG (γ := Nat) (fun j => x.fields.length - j) S1 (fun j => P2.set fa (.cells (fdC (mFd o x.fields j)))) (fun j => j ≤ x.fields.length) 0 (by rw [mFd_0, set_same (up f0), hP2, hcnt]; exact Wk.slots (by rw [hS1]; exact WkL.tail 13 _ rfl (by simp only [List.take_succ_cons, List.take_zero]; repeat' first | exact WkL.nil | refine WkL.cons (Wk1.rfl _) ?_ | refine WkL.cons Wk1.esl ?_ | refine WkL.cons (Wk1.gsl _ _ _) ?_ | refine WkL.cons (Wk1.any _) ?_))) (Nat.zero_le _) (fun j hj => ?_)
 have uj : ∀ (c : ABlk) {b : Nat} {k : ABlk}, b ≠ fa → P2[b]? = some k → (P2.set fa c)[b]? = some k := fun c {b} {k} h1 h2 => by rw [List.getElem?_set_ne (Ne.symm h1)]; exact h2
 have xj := fun c => uj c (by omega) x2
 have kj := fun c => uj c (by omega) (up hk)
 have qj := fun c => uj c (by omega) (up hq)
 have fj : (P2.set fa (.cells (fdC (mFd o x.fields j))))[fa]? = some (.cells (fdC (mFd o x.fields j))) := List.getElem?_set_self (by omega)
 have flen : (fdC (mFd o x.fields j)).length = x.fields.length * 3 := by rw [fdC_len, mFd_len]
 by_cases hj3 : j < x.fields.length
 ·have fat := fd_at (o := o) hj3
  have fset := fd_set (o := o) hj3
  have hj4 : j * 3 + 2 + 1 ≤ x.fields.length * 3 := by omega
  have kj3 := kf j hj3
  have ss : ∀ c c' : ABlk, (P2.set fa c).set fa c' = P2.set fa c' := fun c c' => List.set_set ..
  simp (maxSteps := 2000000) (disch := omega) only [hS1, c24rl1, xj, go_sem, seval, reduceCtorEq]
  refine W.dregSt 13 fa rfl follows (by decide +kernel) rfl (by rw [fj]; simp) ?_
  simp (maxSteps := 2000000) (disch := omega) only [xj, fj, flen, hj4, fat, go_sem, seval, reduceCtorEq]
  refine PCont.mk (turned_c (kj _) (qj _) kj3.1.1 kj3.1.2 kj3.2) ?_
  simp (maxSteps := 2000000) (disch := omega) only [xj, go_sem, seval, reduceCtorEq]
  refine StW.st _ rfl ?_
  simp (maxSteps := 2000000) (disch := omega) only [fj, flen, hj4, fset, ss, go_sem, seval, reduceCtorEq]
  exact Nxt.mk (j + 1) (by omega) (Wk.slots (by rw [hS1]; exact WkL.tail 13 _ rfl (by simp only [List.take_succ_cons, List.take_zero]; repeat' first | exact WkL.nil | refine WkL.cons (Wk1.rfl _) ?_ | refine WkL.cons Wk1.esl ?_ | refine WkL.cons (Wk1.gsl _ _ _) ?_ | refine WkL.cons (Wk1.any _) ?_))) (by omega)
 have hjn : j = x.fields.length := by omega
 subst hjn
 rw [mFd_n] at fj ⊢
 obtain ⟨P3, hP3⟩ : ∃ P3, P2.set fa (ABlk.cells (fdC (x.fields.map (trFd o)))) = P3 := ⟨_, rfl⟩
 have lP3 : P3.length = P2.length := by rw [← hP3, List.length_set]
 rw [hP3] at fj ⊢
 have x3 := xj (ABlk.cells (fdC (x.fields.map (trFd o))))
 rw [hP3] at x3
 have up3 : ∀ {b : Nat} {k : ABlk}, b ≠ fa → G[b]? = some k → P3[b]? = some k := fun h1 h => by rw [← hP3]; exact uj _ h1 (up h)
 clear xj kj qj uj hj flen
 simp (maxSteps := 2000000) (disch := omega) only [hS1, c24rl1, x3, go_sem, seval, reduceCtorEq]
 obtain ⟨S2, hS2⟩ : ∃ S2 : Nat → List AV, ∀ j, S2 j = [.any, .ptr H0.length 0, .ptr (H0.length + 1) 0, iv 0, .any, .any, .ptr (q + 1) 0, .any, .hsl cur 0 (7 + i) (7 + i) 10, iv cnt, iv i, .ptr G.length 0, .any, iv j] ++ List.replicate 174 .any := ⟨_, fun _ => rfl⟩
 refine W.loopG (γ := Nat) (fun j => x.params.length - j) S2 (fun j => P3.set pa (.cells (pmC (mPm o x.params j)))) (fun j => j ≤ x.params.length) 0 (by rw [mPm_0, set_same (up3 (Ne.symm nfp) p0)]; exact Wk.slots (by rw [hS2]; exact WkL.tail 14 _ rfl (by simp only [List.take_succ_cons, List.take_zero]; repeat' first | exact WkL.nil | refine WkL.cons (Wk1.rfl _) ?_ | refine WkL.cons Wk1.esl ?_ | refine WkL.cons (Wk1.gsl _ _ _) ?_ | refine WkL.cons (Wk1.any _) ?_))) (Nat.zero_le _) (fun j hj => ?_)
 have f3 := fj
 have uj : ∀ (c : ABlk) {b : Nat} {k : ABlk}, b ≠ pa → P3[b]? = some k → (P3.set pa c)[b]? = some k := fun c {b} {k} h1 h2 => by rw [List.getElem?_set_ne (Ne.symm h1)]; exact h2
 have xj := fun c => uj c (by omega) x3
 have kj := fun c => uj c (by omega) (up3 (by omega) hk)
 have qj := fun c => uj c (by omega) (up3 (by omega) hq)
 have fj : (P3.set pa (.cells (pmC (mPm o x.params j))))[pa]? = some (.cells (pmC (mPm o x.params j))) := List.getElem?_set_self (by omega)
 have flen : (pmC (mPm o x.params j)).length = x.params.length * 2 := by rw [pmC_len, mPm_len]
 by_cases hj3 : j < x.params.length
 ·have fat := pm_at (o := o) hj3
  have fset := pm_set (o := o) hj3
  have hj4 : j * 2 + 1 + 1 ≤ x.params.length * 2 := by omega
  have kj3 := kp j hj3
  have ss : ∀ c c' : ABlk, (P3.set pa c).set pa c' = P3.set pa c' := fun c c' => List.set_set ..
  simp (maxSteps := 2000000) (disch := omega) only [hS2, c24rl0, xj, go_sem, seval, reduceCtorEq]
  refine W.dregSt 13 pa rfl follows (by decide +kernel) rfl (by rw [fj]; simp) ?_
  simp (maxSteps := 2000000) (disch := omega) only [xj, fj, flen, hj4, fat, go_sem, seval, reduceCtorEq]
  refine PCont.mk (turned_c (kj _) (qj _) kj3.1.1 kj3.1.2 kj3.2) ?_
  simp (maxSteps := 2000000) (disch := omega) only [xj, go_sem, seval, reduceCtorEq]
  refine StW.st _ rfl ?_
  simp (maxSteps := 2000000) (disch := omega) only [fj, flen, hj4, fset, ss, go_sem, seval, reduceCtorEq]
  exact Nxt.mk (j + 1) (by omega) (Wk.slots (by rw [hS2]; exact WkL.tail 14 _ rfl (by simp only [List.take_succ_cons, List.take_zero]; repeat' first | exact WkL.nil | refine WkL.cons (Wk1.rfl _) ?_ | refine WkL.cons Wk1.esl ?_ | refine WkL.cons (Wk1.gsl _ _ _) ?_ | refine WkL.cons (Wk1.any _) ?_))) (by omega)
 have hjn : j = x.params.length := by omega
 subst hjn
 rw [mPm_n] at fj ⊢
 obtain ⟨P4, hP4⟩ : ∃ P4, P3.set pa (ABlk.cells (pmC (x.params.map (trPm o)))) = P4 := ⟨_, rfl⟩
 have lP4 : P4.length = P3.length := by rw [← hP4, List.length_set]
 rw [hP4] at fj ⊢
 have x4 := xj (ABlk.cells (pmC (x.params.map (trPm o))))
 rw [hP4] at x4
 have f4 : P4[fa]? = some (.cells (fdC (x.fields.map (trFd o)))) := by rw [← hP4]; exact uj _ nfp f3
 have up4 : ∀ {b : Nat} {k : ABlk}, b ≠ fa → b ≠ pa → G[b]? = some k → P4[b]? = some k := fun h1 h2 h => by rw [← hP4]; exact uj _ h2 (up3 h1 h)
 have t14 := up4 (by omega) (by omega) t1
 -- the record's number
 obtain ⟨tx, htx⟩ : ∃ tx, tkR (ntF f.name f.types o i) fa pa = tx := ⟨_, rfl⟩
 have hown : own f.name f.types (o.getD i 0) = ownX f.name x := by rw [own, hxt]
 have hnt : ∀ d : Int, d = (if ownX f.name x = true then (cnt : Int) else x.desc) → [iv x.form, sv x.mod, sv x.name, iv x.len, iv (pl o x.elem), iv (pl o x.base), .hsl fa 0 x.fields.length x.fields.length 3, .hsl pa 0 x.params.length x.params.length 2, iv (pl o x.result), iv d] = tx := fun d hd => by
  rw [← htx, ntF, hown, hcnt, hxt, hd]
  simp [tkR, trnT]
 have cnt1 : (o.take (i + 1)).countP (own f.name f.types) = cnt + (if ownX f.name x = true then 1 else 0) := by
  have e2 : own f.name f.types o[i] = ownX f.name x := by rw [← hown, List.getD_eq_getElem?_getD, List.getElem?_eq_getElem hlt]; rfl
  rw [List.take_succ_eq_append_getElem hlt, List.countP_append, hcnt, List.countP_singleton, e2]
 have cle : cnt ≤ 300 := by
  have h1 := List.countP_le_length (p := own f.name f.types) (l := o.take i)
  rw [List.length_take] at h1
  omega
 obtain ⟨c2, P5, hc2, x5, l5, o5, hw⟩ : ∃ (c2 : Nat) (P5 : List ABlk), (o.take (i + 1)).countP (own f.name f.types) = c2 ∧ P5[G.length]? = some (.cells tx) ∧ P5.length = P4.length ∧ (∀ b, b ≠ G.length → P5[b]? = P4[b]?) ∧
  ((x.form ≠ 9 ∧ c2 = cnt ∧ P5 = P4 ∧ [iv x.form, sv x.mod, sv x.name, iv x.len, iv (pl o x.elem), iv (pl o x.base), .hsl fa 0 x.fields.length x.fields.length 3, .hsl pa 0 x.params.length x.params.length 2, iv (pl o x.result), iv x.desc] = tx) ∨ (x.form = 9 ∧ x.mod ≠ f.name ∧ c2 = cnt ∧ P5 = P4 ∧ [iv x.form, sv x.mod, sv x.name, iv x.len, iv (pl o x.elem), iv (pl o x.base), .hsl fa 0 x.fields.length x.fields.length 3, .hsl pa 0 x.params.length x.params.length 2, iv (pl o x.result), iv x.desc] = tx) ∨ (x.form = 9 ∧ x.mod = f.name ∧ c2 = cnt + 1 ∧ [iv x.form, sv x.mod, sv x.name, iv x.len, iv (pl o x.elem), iv (pl o x.base), .hsl fa 0 x.fields.length x.fields.length 3, .hsl pa 0 x.params.length x.params.length 2, iv (pl o x.result), iv cnt] = tx ∧ P4.set G.length (ABlk.cells tx) = P5)) := by
  by_cases k9 : x.form = 9
  ·by_cases km : x.mod = f.name
   ·have hw : ownX f.name x = true := by rw [ownX]; exact decide_eq_true ⟨k9, km⟩
    exact ⟨cnt + 1, _, by rw [cnt1, if_pos hw], List.getElem?_set_self (by omega), by rw [List.length_set], fun b hb => List.getElem?_set_ne (Ne.symm hb), .inr (.inr ⟨k9, km, rfl, hnt _ (by rw [if_pos hw]), rfl⟩)⟩
   ·have hw : ownX f.name x = false := by rw [ownX]; exact decide_eq_false fun h => km h.2
    have e := hnt x.desc (by rw [if_neg (by rw [hw]; simp)])
    exact ⟨cnt, P4, by rw [cnt1, if_neg (by rw [hw]; simp)]; rfl, by rw [x4, e], rfl, fun b hb => rfl, .inr (.inl ⟨k9, km, rfl, rfl, e⟩)⟩
  ·have hw : ownX f.name x = false := by rw [ownX]; exact decide_eq_false fun h => k9 h.1
   have e := hnt x.desc (by rw [if_neg (by rw [hw]; simp)])
   exact ⟨cnt, P4, by rw [cnt1, if_neg (by rw [hw]; simp)]; rfl, by rw [x4, e], rfl, fun b hb => rfl, .inl ⟨k9, rfl, rfl, e⟩⟩
 have d9 : toDats tx = none := by rw [← htx]; rfl
 have a9 : tx.all one = true := by rw [← htx]; rfl
 have ltx : tx.length = 10 := by rw [← htx]; rfl
 have ttx : tx.take 10 = tx := by rw [← ltx, List.take_length]
 have c5 : P5[cur]? = some (.cells (tcV f o fb pb i)) := by
  have n1 : cur ≠ fa := by omega
  have n2 : cur ≠ pa := by omega
  rw [o5 _ (by omega)]; exact up4 n1 n2 tc
 obtain ⟨TV, hTV⟩ : ∃ TV, tcV f o fb pb i = TV := ⟨_, rfl⟩
 have lTV : TV.length = (7 + i) * 10 := by rw [← hTV, tcV_len]
 have kTV : TV.take ((7 + i) * 10) = TV := List.take_of_length_le (by omega)
 rw [hTV] at c5
 have c5' : ∀ l, (P5 ++ l)[cur]? = some (.cells TV) := fun l => hold c5 l
 have e9 := elems1_h (H := P5 ++ [ABlk.cells tx]) (b := P5.length) (k := tx) List.getElem?_concat_length ltx
 obtain ⟨D, hD⟩ : ∃ D, (P5 ++ [ABlk.cells tx]).set cur .dead ++ [ABlk.cells (TV ++ tx)] = D := ⟨_, rfl⟩
 have lD : D.length = P5.length + 2 := by rw [← hD]; simp
 have oD : ∀ b, b ≠ cur → b < P5.length → D[b]? = P5[b]? := fun b h1 h2 => by
  rw [← hD, List.getElem?_append_left (by simp; omega), List.getElem?_set_ne (Ne.symm h1), List.getElem?_append_left h2]
 have lall : P5.length = G.length + 1 := by omega
 have upD : ∀ {b : Nat} {k : ABlk}, b ≠ cur → b ≠ fa → b ≠ pa → G[b]? = some k → D[b]? = some k := fun {b} {k} h0 h1 h2 h => by
  have hb := (List.getElem?_eq_some_iff.1 h).1
  rw [oD b h0 (by omega), o5 b (by omega)]; exact up4 h1 h2 h
 have hX2 : ∀ a', a' ≠ a → XT f o (i + 1) a' = XT f o i a' := fun a' hne => by
  have e : (a' : Int) ∈ o.take (i + 1) ↔ (a' : Int) ∈ o.take i := by
   rw [List.take_succ_eq_append_getElem hlt, List.mem_append, List.mem_singleton]
   have : o[i] = (a : Int) := by rw [← haI, List.getD_eq_getElem?_getD, List.getElem?_eq_getElem hlt]; rfl
   rw [this]
   exact ⟨fun h => h.resolve_right (by omega), .inl⟩
  unfold XT
  by_cases hm : (a' : Int) ∈ o.take i
  ·rw [if_pos hm, if_pos (e.2 hm)]
  ·rw [if_neg hm, if_neg fun h => hm (e.1 h)]
 have hXa : XT f o (i + 1) a = trnT o x := by
  rw [XT, if_pos, hx]
  rw [List.take_succ_eq_append_getElem hlt, List.mem_append, List.mem_singleton]
  right
  rw [← haI, List.getD_eq_getElem?_getD, List.getElem?_eq_getElem hlt]; rfl
 have NI : LI f o tb ob fb pb H0 q gq L0 ⟨i + 1, D, P5.length + 1⟩ := by
  refine ⟨hlt, ?_, upD (by omega) (by omega) (by omega) hq, upD (by omega) (by omega) (by omega) ht, fun a' ha' => ?_, fun a' ha' => ?_, upD (by omega) (by omega) (by omega) t1, upD (by omega) (by omega) (by omega) tz, upD (by omega) (by omega) (by omega) tob, fun b hb => ?_, ?_, by show L0 ≤ P5.length + 1; omega⟩
  ·rw [hV]; exact upD (by omega) (by omega) (by omega) hk
  ·show D[fb a']? = some (.cells (fdC (XT f o (i + 1) a').fields))
   have n' := hS.nf a' ha'
   by_cases e : a' = a
   ·subst e
    rw [hfa, hXa, oD fa (by omega) (by omega), o5 fa (by omega)]; exact f4
   ·have h1 : fb a' ≠ fa := fun h => e (hS.ff _ _ (h.trans hfa.symm))
    have h2 : fb a' ≠ pa := fun h => hS.fp a' a (h.trans hpa.symm)
    rw [hX2 a' e]; exact upD (by omega) h1 h2 (hf a' ha')
  ·show D[pb a']? = some (.cells (pmC (XT f o (i + 1) a').params))
   have n' := hS.np a' ha'
   by_cases e : a' = a
   ·subst e
    rw [hpa, hXa, oD pa (by omega) (by omega), o5 pa (by omega)]; exact fj
   ·have h1 : pb a' ≠ pa := fun h => e (hS.pp _ _ (h.trans hpa.symm))
    have h2 : pb a' ≠ fa := fun h => hS.fp a a' (hfa.trans h.symm)
    rw [hX2 a' e]; exact upD (by omega) h2 h1 (hp a' ha')
  ·show D[b]? = _
   have h := tlo b hb
   rw [List.getElem?_eq_getElem hb] at h
   rw [upD (by omega) (by omega) (by omega) h, List.getElem?_eq_getElem hb]
  ·show D[P5.length + 1]? = some (.cells (tcV f o fb pb (i + 1)))
   rw [tcV_s, hae, hfa, hpa, htx, hTV, ← hD, List.getElem?_append_right (by simp)]
   simp
 rcases hw with ⟨k9, e1, rfl, e2⟩ | ⟨k9, km, e1, rfl, e2⟩ | ⟨k9, km, e1, e2, hP5⟩
 case' inl =>
  simp (maxSteps := 2000000) (disch := omega) only [hS2, c24rl0, x4, decide_eq_false k9, go_sem, seval, reduceCtorEq]
  simp (maxSteps := 2000000) (disch := omega) only [e2, ttx, ltx, e9, d9, a9, appH, c5', lTV, kTV, hD, go_sem, seval, reduceCtorEq]
 case' inr.inl =>
  simp (maxSteps := 2000000) (disch := omega) only [hS2, c24rl0, x4, t14, decide_eq_true k9, decide_eq_false km, go_sem, seval, reduceCtorEq]
  simp (maxSteps := 2000000) (disch := omega) only [e2, ttx, ltx, e9, d9, a9, appH, c5', lTV, kTV, hD, go_sem, seval, reduceCtorEq]
 case' inr.inr => simp (maxSteps := 2000000) (disch := omega) only [hS2, c24rl0, x4, t14, decide_eq_true k9, decide_eq_true km, e2, hP5, x5, ttx, ltx, e9, d9, a9, appH, c5', lTV, kTV, hD, go_sem, seval, reduceCtorEq]
 all_goals
  refine Nxt.mk ⟨i + 1, D, P5.length + 1⟩ (by show o.length - (i + 1) < o.length - i; omega) (Wk.slots (by rw [S2R, hc2, e1]; exact WkL.tail 11 _ rfl (by simp only [List.take_succ_cons, List.take_zero]; repeat' first | exact WkL.nil | refine WkL.cons (Wk1.rfl _) ?_ | refine WkL.cons Wk1.esl ?_ | refine WkL.cons (Wk1.gsl _ _ _) ?_ | refine WkL.cons (Wk1.any _) ?_))) NI
end Go.Proofs.Ythifjndenhjobaa
