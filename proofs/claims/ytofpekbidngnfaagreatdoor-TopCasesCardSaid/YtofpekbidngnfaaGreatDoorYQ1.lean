/- What the row lists, met. -/
import Derived.Test.YtofpekbidngnfaaGreatDoorRows
import Derived.Test.YtofpekbidngnfaaGreatDoorYRead
import Derived.Test.YtofpekbidngnfaaGreatDoorYG3
import Derived.LaidMore
import Derived.LaidSub
import Derived.LaidOnce
import Derived.Deep.DeepWitnessRowRef
import Derived.Lib.LaidU8
import Derived.Lib.LaidCaseMet
import Derived.Shelf.Vars
import Derived.ClosedOfChecked
set_option linter.unusedSectionVars false
set_option linter.unusedSimpArgs false
set_option linter.unusedVariables false
set_option maxRecDepth 100000
namespace Go.Proofs.YtofpekbidngnfaaGreatDoor
open Go.ChangeShapes Go.WideShapes Go.ChangeAt Go.RowKit
theorem Tryz.types_eq:Tryz.prog.types = Tryz.checked.src.types:=by kernel_rfl
theorem Tryz.laidOut:laidOutB Tryz.prog = true:=ClosedOfChecked.laidOutB_of (ClosedOfChecked.allSpec_of Tryz.checked.wellFormed Tryz.types_eq) (by kernel_rfl)
theorem Tryz.rowed:mapsRowed Tryz.prog = true:=ClosedOfChecked.mapsRowed_of (ClosedOfChecked.allSpec_of Tryz.checked.wellFormed Tryz.types_eq)
theorem Tryz.own:ownKnob Tryz.prog.godebug = none:=by kernel_rfl
def litCells:DataW Unit->List Value
 | .agg l=>l.flatMap fun
  | .lit (.int k z)=>[Value.int k z]
  | .agg l=>l.map fun
   | .lit (.int k z)=>Value.int k z
   | _=>.int .i64 0
  | _=>[]
 | _=>[]
def putC (h:List Obj) (g:Nat) (cs:List Value):List Obj:=h.modify g fun
 | .cells _ t frozen=>.cells cs.toArray t frozen
 | o=>o
noncomputable def laidW (os:Os):World:=
 let w:=World.holding Tryz.prog os ⟨#[.cells (Lib.whiteT.map λ(z:Nat)=>Value.int .u16 (z:Int)).toArray 463,.cells #[.slice (some ⟨17,0,none⟩) 7 7,.slice none 0 0,.int .i64 2] 461,
  .cells #[.string ⟨#[105,110,118,97,108,105,100,32,115,121,110,116,97,120]⟩] 587,.cells #[.string ⟨#[118,97,108,117,101,32,111,117,116,32,111,102,32,114,97,110,103,101]⟩] 587,.cells Lib.caseCells5 709],#[],[]⟩
 let h0:=putC w.heap.toList 0 (litCells Rows.laid_strings_asciiSpace)
 let h1:=putC h0 1 [.pointer (some ⟨18,0,none⟩)]
 let h3:=putC h1 3 [.iface 585 (.pointer (some ⟨19,0,none⟩))]
 let h4:=putC h3 4 [.iface 585 (.pointer (some ⟨20,0,none⟩))]
 let h5:=putC h4 5 (litCells Rows.laid_internal_strconv_uint64pow10)
 let h6:=putC h5 6 [.slice (some ⟨21,0,none⟩) 336 336]
 let h7:=putC h6 7 (litCells Rows.laid_math_bits_deBruijn32tab)
 let h8:=putC h7 8 (litCells Rows.laid_math_bits_deBruijn64tab)
 let h9:=putC h8 9 (litCells Rows.laid_unicode_utf8_first)
 let ha:=putC h9 10 (litCells Rows.laid_unicode_utf8_acceptRanges)
 { w with heap:=ha.toArray }
noncomputable abbrev laidAt (os:Os) (args:Array Value):World:=((laidW os).forCall (λ_ _=>0) ⟨#[],args,[]⟩).memory
abbrev laid9:List (String × DataW Unit):=Rows.topCasesRow.laid.take 9
theorem case_eq : Rows.topCasesRow.laid = laid9 ++ [("unicode.CaseRanges", Lib.caseData)] := by kernel_rfl
theorem nodupB_of:∀ {l:List Nat},l.Nodup->nodupB l = true
 | [],_=>rfl
 | a :: l,h=>by
  obtain ⟨h1,h2⟩:=List.nodup_cons.1 h; rw [nodupB,nodupB_of h2,Bool.and_true,Bool.not_eq_true',List.elem_eq_mem,decide_eq_false_iff_not]; exact h1
def offB:MemPlace->Bool
 | .cell _ off=>Nat.ble off 100000
 | .map _=>true
theorem code_inj {p q:MemPlace} (hp:offB p = true) (hq:offB q = true) (h:p.codeOf = q.codeOf):p = q:=by
 cases p with
 | cell b off =>
  have h1:=Nat.le_of_ble_eq_true hp
  cases q with
  | cell b' off' =>
   have h2:=Nat.le_of_ble_eq_true hq; simp only [MemPlace.codeOf] at h; obtain rfl:b = b':=by omega
   obtain rfl:off = off':=by omega
   rfl
  | map b'=>simp only [MemPlace.codeOf] at h; omega
 | map b =>
  cases q with
  | cell b' off'=>simp only [MemPlace.codeOf] at h; omega
  | map b' =>
   simp only [MemPlace.codeOf] at h; obtain rfl:b = b':=by omega
   rfl
theorem codes_nodup {ps:List MemPlace} (h:ps.Nodup) (ho:∀ p ∈ ps,offB p = true):nodupB (ps.map MemPlace.codeOf) = true:=by
 refine nodupB_of ?_
 unfold List.Nodup
 rw [List.pairwise_map]; exact List.Pairwise.imp_of_mem (λhp hq hne e=>hne (code_inj (ho _ hp) (ho _ hq) e)) h
theorem met1 (os:Os) (args:Array Value):(DataW.laidRun Tryz.prog (laidAt os args) 8 (laid9.map (·.1))).map (λx=>(x.1,nodupBits 257 x.2 0 && (x.2.all offB && (laidRowsB Tryz.prog (laidAt os args) x.2 && x.2.all λp=>p.block != 6 && p.block != 21)))) = some (laid9,true):=by kernel_rfl
theorem hvar (os:Os) (args:Array Value):(laidAt os args).heap[6]? = some (.cells #[.slice (some ⟨21,0,none⟩) 336 336] 697 (0,0)):=by kernel_rfl
theorem hblk (os:Os) (args:Array Value):(laidAt os args).heap[21]? = some (.cells Lib.caseCells5 709 (0,0)):=by kernel_rfl
theorem door_met (os:Os) (args:Array Value):laidMet Tryz.prog Rows.topCasesRow.laid (laidAt os args):=by
 rw [case_eq]; have h:=met1 os args; rw [Option.map_eq_some_iff] at h; obtain ⟨⟨l,ps⟩,hx,h2⟩:=h; simp only [Prod.mk.injEq,Bool.and_eq_true] at h2; obtain ⟨rfl,h3,h4,h5,h6⟩:=h2; refine laidMet_with_case (ρ:=Tryz.lays158_ren) { Tryz.lays158 with } Tryz.lays158.t206 ⟨by kernel_rfl,by kernel_rfl,by kernel_rfl,by kernel_rfl,by kernel_rfl,by kernel_rfl⟩ 8 (by rw [hx]; rfl) ?_ ?_ 21 709 (by decide) ?_ (hvar os args) (hblk os args)
 ·rw [hx,Option.map_some,codes_nodup (nodupBits_sound h3).1 (List.all_eq_true.1 h4)]
 ·rw [hx,Option.map_some,h5]
 ·rw [hx,Option.map_some]; exact congrArg some h6
theorem no_handle:(Rows.topCasesRow.laid.all λx=>x.2.handleName?.isNone) = true:=by kernel_rfl
theorem door_metH (os:Os) (args:Array Value):laidMetH Tryz.prog Rows.topCasesRow.laid ((laidW os).forCall (λ_ _=>0) ⟨#[],args,[]⟩).memory:=by
 rw [MakeChecks.laidMetH_plain _ _ _ no_handle]; exact door_met os args
theorem witness_row (os:Os) {H:Type} (enc:TypeId × Value->H) :
 (OpenSpec.ofChange Rows.topCasesSpec).preRow enc Tryz.prog Tryz.f3 Rows.topCasesRow.domain false Rows.topCasesRow.laid ((laidW os).forCall (λ_ _=>0) ⟨#[],#[.string ⟨#[]⟩],[]⟩).memory #[.string ⟨#[]⟩]:=by
 have hw:(DataW.whole enc Tryz.prog ((laidW os).forCall (λ_ _=>0) ⟨#[],#[.string ⟨#[]⟩],[]⟩).memory Tryz.f3.params.toList (OpenSpec.ofChange Rows.topCasesSpec).vars false #[Value.string ⟨#[]⟩].toList 8).map (λx=>(x.1,x.2.1)) =
  some ([.lit (.string [])],[]):=by kernel_rfl
 obtain ⟨⟨x1,x2,x3⟩,hx,hx1⟩:=Option.map_eq_some_iff.1 hw; simp only [Prod.mk.injEq] at hx1; obtain ⟨rfl,rfl⟩:=hx1; exact OpenSpec.preRow_of_cond 8 hx (by kernel_rfl) (λk hk=>by cases hk) (by kernel_rfl) (door_metH os _)
theorem w_vars (os:Os):((laidW os).forCall (λ_ _=>0) ⟨#[],#[.string ⟨#[]⟩],[]⟩).variablesRefB Tryz.prog = true:=by kernel_rfl
theorem w_rest (os:Os):(((laidW os).forCall (λ_ _=>0) ⟨#[],#[.string ⟨#[]⟩],[]⟩).heap.toList.drop Tryz.prog.globals.size).take ((begin Tryz.prog (λ_ _=>0) default).world.heap.size - Tryz.prog.globals.size) =
 (begin Tryz.prog (λ_ _=>0) default).world.heap.toList.drop Tryz.prog.globals.size:=by kernel_rfl
theorem w_args (os:Os):Input.okWideB Tryz.prog ((laidW os).forCall (λ_ _=>0) ⟨#[],#[.string ⟨#[]⟩],[]⟩) 3 ⟨#[],#[.string ⟨#[]⟩],[]⟩ = true:=by kernel_rfl
theorem tab_of {W:World} (h:laidMet Tryz.prog Rows.topCasesRow.laid W) {n:String} {k:IntKind} {zs:List Int} {g t e m:Nat} (hl:Rows.topCasesRow.laid.filter (λx=>x.1 == n) = [(n,Lib.tabData k zs)])
 (hg:Tryz.prog.globalNamed n = some g) (hty:(Tryz.prog.globals[g]?).map (·.type) = some t) (ht:Tryz.prog.underlying t = some (.array m e)) (he:Tryz.prog.underlying e = some (.int k)) (hce:Tryz.prog.cellsOf e = 1) (hct:Tryz.prog.cellsOf t = m) :
 ∃ e f,W.heap[g]? = some (.cells (zs.map λz=>Value.int k z).toArray e f):=by
 have h1:=h.filter λx=>x.1 == n
 rw [hl] at h1; have h2:=Lib.tabIs_of_head hg hty ht he hce hct h1
 unfold Lib.TabIs World.var? at h2
 rw [hg,Option.bind_some] at h2
 split at h2
 ·rename_i cs e f hc
  cases h2
  exact ⟨e,f,hc⟩
 ·cases h2
end Go.Proofs.YtofpekbidngnfaaGreatDoor
