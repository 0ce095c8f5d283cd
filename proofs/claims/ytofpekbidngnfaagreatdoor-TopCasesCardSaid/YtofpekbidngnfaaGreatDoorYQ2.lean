/- The row's closed facts, each by itself. -/
import Derived.Test.YtofpekbidngnfaaGreatDoorYQ1
import Derived.Test.YtofpekbidngnfaaGreatDoorYQ4
import Derived.JoinedCond
import Derived.Test.YtofpekbidngnfaaGreatDoorYP9
set_option linter.unusedSectionVars false
set_option linter.unusedSimpArgs false
set_option linter.unusedVariables false
set_option maxRecDepth 100000
namespace Go.Proofs.YtofpekbidngnfaaGreatDoor
open Go.ChangeShapes Go.WideShapes Go.ChangeAt Go.RowKit
abbrev rowC:OpenClaim:=Rows.topCasesRow
abbrev rowS:ChangeSpec:=(OpenSpec.ofChange Rows.topCasesSpec).bare
theorem j1:rowC.wf (OpenSpec.ofChange rowS) = true:=by kernel_rfl
theorem j4:Tryz.f3.params.all (Tryz.prog.readableRec ·) = true:=by kernel_rfl
theorem j5:namedTie Tryz.prog rowC.named rowS.vars = true:=by kernel_rfl
theorem j6:(rowC.stops == []) = true:=by kernel_rfl
theorem j7:(Tryz.prog.stops == []) = true:=by kernel_rfl
theorem j8:(rowC.knobs == []) = true:=by kernel_rfl
theorem j9:(Tryz.prog.stopKnobs == []) = true:=by kernel_rfl
theorem j14:(rowC.maps == (Tryz.f3.params.toList ++ rowS.plain.varTypes Tryz.prog).any (Tryz.prog.mapsRec ·)) = true:=by kernel_rfl
theorem j15:(rowC.ifaces == (Tryz.f3.params.toList ++ rowS.plain.varTypes Tryz.prog).any (Tryz.prog.ifacesRec ·)) = true:=by kernel_rfl
theorem j16:(rowC.mapsOut == Tryz.prog.mapsAmong Tryz.f3.resultTypes.toList) = true:=by kernel_rfl
theorem j17:(rowC.loops == (Tryz.f3.params.toList ++ rowS.plain.varTypes Tryz.prog).any (Tryz.prog.loopsFrom ·)) = true:=by kernel_rfl
theorem j17b:(rowC.wideKeys == (Tryz.f3.params.toList ++ rowS.plain.varTypes Tryz.prog ++ Tryz.f3.resultTypes.toList).any (Tryz.prog.wideKeysFrom ·)) = true:=by kernel_rfl
theorem j18:rowS.vars.all (Tryz.prog.varReadable ·) = true:=by kernel_rfl
theorem j19:Tryz.f3.resultTypes.all (λt=>Tryz.prog.readableRec t && decide (t < Tryz.prog.types.size)) = true:=by kernel_rfl
theorem j20:(rowC.ifacesOut == Tryz.f3.resultTypes.toList.any (Tryz.prog.ifacesRec ·)) = true:=by kernel_rfl
theorem j21:(rowC.loopsOut == Tryz.f3.resultTypes.toList.any (Tryz.prog.loopsFrom ·)) = true:=by kernel_rfl
theorem j22:(rowC.plainKeys == Tryz.prog.plainKeys) = true:=by kernel_rfl
theorem j23:rowC.shortTexts.isNone = true:=by kernel_rfl
theorem j23b:Tryz.prog.stopsHeard = true:=by kernel_rfl
theorem j24:Tryz.prog.mayEnter = true:=by kernel_rfl
theorem j24b:(rowC.lifted == Tryz.prog.liftsFinal) = true:=by kernel_rfl
theorem j24c:(Tryz.prog.make == some rowC.make) = true:=by kernel_rfl
theorem j25:(rowC.kinds == (if rowC.domain.isEmpty then [] else Tryz.f3.params.toList.map λt=>match Tryz.prog.underlying t with | some (.int k)=>some k | _=>none)) = true:=by kernel_rfl
theorem j26:(rowC.pinned == rowC.pinnedBy) = true:=by kernel_rfl
theorem j27:(rowC.veiled == (Tryz.f3.params.toList ++ rowS.plain.varTypes Tryz.prog ++ Tryz.f3.resultTypes.toList).any (Tryz.prog.veiledRec ·)) = true:=by kernel_rfl
theorem j28:rowC.veiledFits Tryz.prog Tryz.f3.params.toList (Tryz.f3.params.toList ++ rowS.plain.varTypes Tryz.prog ++ Tryz.f3.resultTypes.toList) = true:=by kernel_rfl
theorem jf:joinedFacts Tryz.prog 3 Tryz.f3 rowS rowC = true:=by
 unfold joinedFacts
 simp only [Bool.and_eq_true]; exact ⟨⟨⟨⟨⟨⟨⟨⟨⟨⟨⟨⟨⟨⟨⟨⟨⟨⟨⟨⟨⟨⟨⟨⟨⟨⟨⟨⟨⟨⟨⟨j1,Tryz.laidOut⟩,Tryz.rowed⟩,j4⟩,j5⟩,j6⟩,j7⟩,j8⟩,j9⟩,j10⟩,j11⟩,j12⟩,j13⟩,j14⟩,j15⟩,j16⟩,j17⟩,j17b⟩,j18⟩,j19⟩,j20⟩,j21⟩,j22⟩,j23⟩,j23b⟩,j24⟩,j24b⟩,j24c⟩,j25⟩,j26⟩,j27⟩,j28⟩
def argL:List TypeId:=[9]
theorem argL_ok:dataB Tryz.prog argL = true:=by kernel_rfl
theorem topCases_any {a0:AV} (h0:ArgD Tryz.prog 9 a0) (v0:Value) (W:World) (hM:MemOk W.cell? W) (hv:VRs ⟨W.cell?,λ_ _=>none,[]⟩ [a0] [v0]) :
 Calls Tryz.prog 3 #[v0] W λe w'=>e = .returned (.bool true)/\Below W.heap.size W w':=by
 obtain ⟨s,rfl,_⟩:=h0.str Tryz.underlying9; have hW:Wld:=⟨⟨W.cell?,λ_ _=>none,[]⟩,W,⟨hM,λb k hb=>by simp at hb,λ_ _ _=>rfl,λb b' k k' u u' g hb=>by simp at hb⟩⟩; exact (cases_c hW s []).law hM hv
theorem mem_ok {W:World} (hL:laidMetH Tryz.prog Rows.topCasesRow.laid W):MemOk W.cell? W:=by
 rw [MakeChecks.laidMetH_plain _ _ _ no_handle] at hL; have key:∀ t ∈ glTabs,∃ e f,W.heap[t.1]? = some (.cells (t.2.2.map λz=>Value.int t.2.1 z).toArray e f):=λt ht=>by
  simp only [glTabs,List.mem_cons,List.not_mem_nil,or_false] at ht; rcases ht with rfl | rfl | rfl
  ·exact tab_of hL (n := "strings.asciiSpace") (t := 272) (e := 5) (m := 256) (by kernel_rfl) (by kernel_rfl) (by kernel_rfl) Tryz.underlying272 Tryz.underlying5 (by kernel_rfl) (by kernel_rfl)
  ·exact tab_of hL (n := "internal/strconv.uint64pow10") (t := 685) (e := 275) (m := 20) (by kernel_rfl) (by kernel_rfl) (by kernel_rfl) Tryz.underlying685 Tryz.underlying275 (by kernel_rfl) (by kernel_rfl)
  ·exact tab_of hL (n := "math/bits.deBruijn64tab") (t := 699) (e := 5) (m := 64) (by kernel_rfl) (by kernel_rfl) (by kernel_rfl) Tryz.underlying699 Tryz.underlying5 (by kernel_rfl) (by kernel_rfl)
 refine ⟨λ_ _ h=>h,⟨trivial,λt ht i x hx=>?_⟩,λt ht=>?_⟩
 ·obtain ⟨e,f,hc⟩:=key t ht
  simp [World.cell?,hc,hx]
 ·obtain ⟨e,f,hc⟩:=key t ht
  exact ⟨_,e,f,hc,by simp⟩
set_option maxRecDepth 100000 in
theorem topCases_lifted (os:Os) (started:os.Started) (H:Type) (enc:TypeId × Value->H) (F:Stop.Interp) :
 ReturnsInHanded {} Tryz.checked os 3 .any ((OpenSpec.ofChange Rows.topCasesSpec).preRow enc Tryz.prog Tryz.f3 Rows.topCasesRow.domain false Rows.topCasesRow.laid) (((OpenSpec.ofChange Rows.topCasesSpec).at F).post enc Tryz.prog Tryz.f3 false true false false):=by
 refine returnsInHanded_of_row (C:=Tryz.checked) (s:=OpenSpec.ofChange Rows.topCasesSpec) Tryz.own started (by kernel_rfl) Tryz.func3
  (witness_row_atRef (enc:=enc) (C:=Tryz.checked) false (laidW os) #[.string ⟨#[]⟩] rfl (w_vars os) (w_rest os) (w_args os) (witness_row os enc)) ?_
 intro W base args ds gs before hval0 hW _ _ hsz0 hL hsh _
 have hsz:(DataW.weightsEach Tryz.prog (Tryz.f3.params.toList ++ (OpenSpec.ofChange Rows.topCasesSpec).bare.plain.varTypes Tryz.prog) (ds ++ gs)).all (·<=reachBytes) = true:=hsz0; have hval:∀ (j:Nat) t v,Tryz.f3.params[j]? = some t->args[j]? = some v->Value.okWide Tryz.prog W .any base t v:=hval0; have hW':=hW; obtain ⟨p,q,hA0,hV,rfl,hfz,hnd⟩:=hW; have hA:DataW.TrodAll enc Tryz.prog W 0 (λ_=>true) true Tryz.f3.params.toList args.toList ds p:=hA0; rw [Tryz.params3] at hA hval hsz; obtain ⟨v0,d0,rfl,rfl,h0⟩:=trodAll_one hA; obtain ⟨rfl,rfl⟩:=trodVars_none hV; obtain ⟨a0,ha0,hr0⟩:=read_val argL_ok (by decide) (hval 0 9 v0 rfl rfl) h0 (λn hn=>of_decide_eq_true (List.all_eq_true.1 hsz n (DataW.weights_mem_each (j:=0) rfl rfl n hn))); clear hA0 hval0 hsz0; simp only [List.append_nil] at hW'; have hlt:=hW'.lt; refine (topCases_any ha0 v0 W (mem_ok hL) (.cons hr0 .nil)).mono λe W' ⟨he,hw⟩=>?_
 subst he; exact ⟨_,rfl,post_of_below (pa:=p) (pv:=[]) hW' (λ_ _ _=>trodAll_mk1 (shut_bool Tryz.underlying4 _)) (λsp hsp=>trodAll_mk1 (WideElems.Trod_stays Tryz.laidOut (by kernel_rfl) (of_decide_eq_true (by kernel_rfl)) h0 (λx hx=>hw.same (hlt x (by simp [hx]))) (λx hx=>hsp x (by simp [hx])))) (λ_ _=>rfl) (by simp)
  hw (ok_one (by kernel_rfl) rfl (okWide_bool_mk Tryz.underlying4 _))⟩
theorem topCases_holds:Rows.TopCasesSaid:=
 OpenClaim.holds_of_cond 3 Tryz.f3 rfl rfl rfl rfl rfl rfl rfl ⟨rfl,rfl,rfl,rfl,rfl⟩ rfl rfl rfl rfl rfl (by kernel_rfl) Tryz.func3 jf
  (of_decide_eq_true (by kernel_rfl)) (by unfold Func.isWrapper; first | (rw [if_pos (by decide +kernel)]; kernel_rfl) | (rw [if_neg (by decide +kernel)]; exact ⟨rfl,rfl⟩))
  (λos started H enc _ F0=>by rw [OpenClaim.pre_eq_preRow]; exact topCases_lifted os started H enc F0)
#print axioms topCases_holds
end Go.Proofs.YtofpekbidngnfaaGreatDoor
