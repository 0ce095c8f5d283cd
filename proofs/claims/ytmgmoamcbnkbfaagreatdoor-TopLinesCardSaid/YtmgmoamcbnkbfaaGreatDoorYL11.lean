/- TopLines: whatever words, input and fuel come in, words that are written as lines and read again are the same words and run to the same end: the law tells true, and what came in reads as it did. Its conditions are the row's own: what the listed package variables hold when the call begins, tied by the card to the program's text. -/
import Derived.Test.YtmgmoamcbnkbfaaGreatDoorYL8
import Derived.Test.YtmgmoamcbnkbfaaGreatDoorYL9
import Derived.Test.YtmgmoamcbnkbfaaGreatDoorTie
import Derived.Test.YtmgmoamcbnkbfaaGreatDoorCards
set_option linter.unusedVariables false
set_option linter.unusedSimpArgs false
set_option linter.unusedSectionVars false
namespace Go.Proofs.YtmgmoamcbnkbfaaGreatDoor
open Go.ChangeShapes Go.WideShapes Go.ChangeAt Go.RowKit
set_option linter.unusedVariables false
set_option linter.unusedSimpArgs false

theorem Tryz.laidOut : laidOutB Tryz.prog = true := by kernel_rfl
theorem Tryz.own : ownKnob Tryz.prog.godebug = none := by kernel_rfl
def argL : List TypeId := [22, 44, 9, 3]
theorem argL_ok : dataB Tryz.prog argL = true := by kernel_rfl
theorem read_words {a : AV} (h : ArgD Tryz.prog 22 a) : ∃ ws : List Int, a = .d (.sl (ws.map ud)) ∧ ws.length ≤ maxLen ∧ ∀ x ∈ ws, 0 ≤ x ∧ x < 4294967296 := by
  obtain ⟨es, rfl, hl, he⟩ := h.sl Tryz.underlying22
  have key : ∀ c : List Dat, ∃ n : Int, c ∈ es → c = ud n ∧ 0 ≤ n ∧ n < 4294967296 := fun c => by
    by_cases hc : c ∈ es
    · obtain ⟨n, e, hn⟩ := (he c hc).int_inv Tryz.underlying44
      exact ⟨n, fun _ => ⟨e, wf_u32 hn⟩⟩
    · exact ⟨0, fun h => absurd h hc⟩
  obtain ⟨F, hF⟩ := Classical.axiomOfChoice key
  refine ⟨es.map F, ?_, by simpa using hl.1, fun x hx => ?_⟩
  · congr 2
    rw [List.map_map]
    symm
    conv => rhs; rw [← List.map_id es]
    exact List.map_congr_left fun c hc => ((hF c hc).1).symm
  · obtain ⟨c, hc, rfl⟩ := List.mem_map.1 hx
    exact (hF c hc).2
theorem topLines_any {a0 a1 a2 : AV} (h0 : ArgD Tryz.prog 22 a0) (h1 : ArgD Tryz.prog 9 a1) (h2 : ArgD Tryz.prog 3 a2) (v0 v1 v2 : Value) (W : World) (hM : MemOk W.cell? W) (hv : VRs ⟨W.cell?, fun _ _ => none⟩ [a0, a1, a2] [v0, v1, v2]) :
    Calls Tryz.prog 3 #[v0, v1, v2] W fun e w' => e = .returned (.bool true) ∧ Below W.heap.size W w' := by
  obtain ⟨ws, rfl, _, hr⟩ := read_words h0
  obtain ⟨s, rfl, _⟩ := h1.str Tryz.underlying9
  obtain ⟨n, rfl, _⟩ := h2.int Tryz.underlying3
  exact (topLines_c hr s n []).law hM hv
/-- What the row lists is what the walk leans on. -/
theorem mem_ok {W : World} (hL : laidMetH Tryz.prog Rows.topLinesRow.laid W) (hsh : W.ShapedOpen Tryz.prog) : MemOk W.cell? W := by
  rw [MakeChecks.laidMetH_plain _ _ _ no_handle] at hL
  have key : ∀ t ∈ glTabs, ∃ e f, W.heap[t.1]? = some (.cells (t.2.2.map fun z => Value.int t.2.1 z).toArray e f) := fun t ht => by
    simp only [glTabs, List.mem_cons, List.not_mem_nil, or_false] at ht
    rcases ht with rfl | rfl | rfl
    · exact tab_of hL (n := "strings.asciiSpace") (t := 107) (e := 5) (m := 256) (by kernel_rfl) (by kernel_rfl) (by kernel_rfl) Tryz.underlying107 Tryz.underlying5 (by kernel_rfl) (by kernel_rfl)
    · exact tab_of hL (n := "internal/strconv.uint64pow10") (t := 185) (e := 86) (m := 20) (by kernel_rfl) (by kernel_rfl) (by kernel_rfl) Tryz.underlying185 Tryz.underlying86 (by kernel_rfl) (by kernel_rfl)
    · exact tab_of hL (n := "math/bits.deBruijn64tab") (t := 201) (e := 5) (m := 64) (by kernel_rfl) (by kernel_rfl) (by kernel_rfl) Tryz.underlying201 Tryz.underlying5 (by kernel_rfl) (by kernel_rfl)
  refine ⟨fun _ _ h => h, ⟨?_, fun t ht i x hx => ?_⟩, fun t ht => ?_⟩
  · exact cell_of_shapedOpen_int (t := 3) (zero := #[.int .i64 0]) hsh (of_decide_eq_true (by kernel_rfl)) (by kernel_rfl) rfl (by kernel_rfl) (by kernel_rfl) Tryz.underlying3
  · obtain ⟨e, f, hc⟩ := key t ht
    simp [World.cell?, hc, hx]
  · obtain ⟨e, f, hc⟩ := key t ht
    exact ⟨_, e, f, hc, by simp⟩
set_option maxRecDepth 100000 in
theorem topLines_lifted (os : Os) (started : os.Started) (H : Type) (enc : TypeId × Value → H) (F : Stop.Interp) :
    ReturnsInHanded {} Tryz.checked os 3 .any ((OpenSpec.ofChange Rows.topLinesSpec).preRow enc Tryz.prog Tryz.f3 Rows.topLinesRow.domain false Rows.topLinesRow.laid) (((OpenSpec.ofChange Rows.topLinesSpec).at F).post enc Tryz.prog Tryz.f3 false true false false) := by
  refine returnsInHanded_of_row (C := Tryz.checked) (s := OpenSpec.ofChange Rows.topLinesSpec) Tryz.own started (by kernel_rfl) Tryz.func3
    (witness_row_atRef (enc := enc) (C := Tryz.checked) false (laidW os) #[.slice none 0 0, .string ⟨#[]⟩, .int .i64 0] rfl (w_vars os) (w_rest os) (w_args os) (witness_row os enc)) ?_
  intro W base args ds gs before hval0 hW _ _ hsz0 hL hsh _
  have hsz : (DataW.weightsEach Tryz.prog (Tryz.f3.params.toList ++ (OpenSpec.ofChange Rows.topLinesSpec).bare.plain.varTypes Tryz.prog) (ds ++ gs)).all (· ≤ reachBytes) = true := hsz0
  have hval : ∀ (j : Nat) t v, Tryz.f3.params[j]? = some t → args[j]? = some v → Value.okWide Tryz.prog W .any base t v := hval0
  have hW' := hW
  obtain ⟨p, q, hA0, hV, rfl, hfz, hnd⟩ := hW
  have hA : DataW.TrodAll enc Tryz.prog W 0 (fun _ => true) true Tryz.f3.params.toList args.toList ds p := hA0
  rw [Tryz.params3] at hA hval hsz
  obtain ⟨v0, v1, v2, d0, d1, d2, p0, p1, p2, rfl, rfl, rfl, h0, h1, h2⟩ := trodAll_three hA
  obtain ⟨rfl, rfl⟩ := trodVars_none hV
  obtain ⟨a0, ha0, hr0⟩ := read_val argL_ok (by decide) (hval 0 22 v0 rfl rfl) h0 (fun n hn => of_decide_eq_true (List.all_eq_true.1 hsz n (DataW.weights_mem_each (j := 0) rfl rfl n hn)))
  obtain ⟨a1, ha1, hr1⟩ := read_val argL_ok (by decide) (hval 1 9 v1 rfl rfl) h1 (fun n hn => of_decide_eq_true (List.all_eq_true.1 hsz n (DataW.weights_mem_each (j := 1) rfl rfl n hn)))
  obtain ⟨a2, ha2, hr2⟩ := read_val argL_ok (by decide) (hval 2 3 v2 rfl rfl) h2 (fun n hn => of_decide_eq_true (List.all_eq_true.1 hsz n (DataW.weights_mem_each (j := 2) rfl rfl n hn)))
  clear hA0 hval0 hsz0
  simp only [List.append_nil] at hW'
  have hlt := hW'.lt
  refine (topLines_any ha0 ha1 ha2 v0 v1 v2 W (mem_ok hL hsh) (.cons hr0 (.cons hr1 (.cons hr2 .nil)))).mono fun e W' ⟨he, hw⟩ => ?_
  subst he
  exact ⟨_, rfl, post_of_below (pa := p0 ++ (p1 ++ p2)) (pv := []) hW' (fun _ _ _ => trodAll_mk1 (shut_bool Tryz.underlying4 _)) (fun sp hsp => trodAll_mk3 (WideElems.Trod_stays Tryz.laidOut (by kernel_rfl) (of_decide_eq_true (by kernel_rfl)) h0 (fun x hx => hw.same (hlt x (by simp [hx]))) (fun x hx => hsp x (by simp [hx]))) (WideElems.Trod_stays Tryz.laidOut (by kernel_rfl) (of_decide_eq_true (by kernel_rfl)) h1 (fun x hx => hw.same (hlt x (by simp [hx]))) (fun x hx => hsp x (by simp [hx]))) (WideElems.Trod_stays Tryz.laidOut (by kernel_rfl) (of_decide_eq_true (by kernel_rfl)) h2 (fun x hx => hw.same (hlt x (by simp [hx]))) (fun x hx => hsp x (by simp [hx])))) (fun _ _ => rfl) (by simp)
    hw (ok_one (by kernel_rfl) rfl (okWide_bool_mk Tryz.underlying4 _))⟩
theorem topLines_holds : Rows.TopLinesSaid :=
  OpenClaim.holds_of_cond 3 Tryz.f3 rfl rfl rfl rfl rfl rfl rfl ⟨rfl, rfl, rfl, rfl, rfl⟩ rfl rfl rfl rfl rfl (by kernel_rfl) Tryz.func3 (by kernel_rfl)
    (of_decide_eq_true (by kernel_rfl)) (by unfold Func.isWrapper; first | (rw [if_pos (by decide +kernel)]; kernel_rfl) | (rw [if_neg (by decide +kernel)]; exact ⟨rfl, rfl⟩))
    (fun os started H enc _ F0 => by rw [OpenClaim.pre_eq_preRow]; exact topLines_lifted os started H enc F0)
#print axioms topLines_holds
end Go.Proofs.YtmgmoamcbnkbfaaGreatDoor

/- The card of TopLines: the row, with what it lists tied to the text of the program. -/
namespace Go.Proofs.YtmgmoamcbnkbfaaGreatDoor
open Go

theorem topLines_card_holds : Rows.TopLinesCardSaid :=
  Claim7.holds_tied_plain_at .later [] [.data, .data, .data, .data, .sentinel, .sentinel, .listed, .data, .pinned] true (true, "c2cf7ba581d2b23e4e7a3331e4b08e0b346faf652c63e0c463d9a64fd54f3f00") true
    topLines_holds (fun _ h => by cases h) (by kernel_rfl) (fun _ h => by cases h) topLines_row_tie rfl ⟨rfl, rfl⟩ (by kernel_rfl) rfl
    (fun f fn hf hfn => by
      obtain rfl : f = 3 := Option.some.inj ((show Tryz.prog.funcNamed "spinet/spinettop.TopLines" = some 3 by kernel_rfl).symm.trans hf) |>.symm
      obtain rfl : fn = Tryz.f3 := (Option.some.inj (Tryz.func3.symm.trans hfn)).symm
      exact ⟨by kernel_rfl, fun j t ht => by
        rw [Tryz.params3] at ht
        have h3 : t = 22 ∨ t = 9 ∨ t = 3 := by
          match j, ht with
          | 0, ht => exact .inl (by simpa using ht.symm)
          | 1, ht => exact .inr (.inl (by simpa using ht.symm))
          | 2, ht => exact .inr (.inr (by simpa using ht.symm))
          | j + 3, ht => simp at ht
        rcases h3 with rfl | rfl | rfl
        · exact (show Tryz.prog.wantsStandIn 22 = false by kernel_rfl)
        · exact (show Tryz.prog.wantsStandIn 9 = false by kernel_rfl)
        · exact (show Tryz.prog.wantsStandIn 3 = false by kernel_rfl)⟩)
    (by kernel_rfl)
#print axioms topLines_card_holds
end Go.Proofs.YtmgmoamcbnkbfaaGreatDoor
