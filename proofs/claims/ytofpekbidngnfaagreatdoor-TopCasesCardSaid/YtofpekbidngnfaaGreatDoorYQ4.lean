/- The functions that the law reaches. -/
import Derived.Test.YtofpekbidngnfaaGreatDoorRows
import Derived.KernelRfl
set_option linter.unusedSectionVars false
set_option linter.unusedSimpArgs false
set_option linter.unusedVariables false
set_option maxRecDepth 100000
namespace Go.Proofs.YtofpekbidngnfaaGreatDoor
open Go
def cloB (P:Program):Nat->List Nat->List Nat->Nat->List Nat
 | 0,_,seen,_=>seen.reverse
 | _ + 1,[],seen,_=>seen.reverse
 | n + 1,f :: todo,seen,b =>
  match Nat.testBit b f with
  | true=>cloB P n todo seen b
  | false=>cloB P n ((P.funcs[f]?).elim [] P.leadsTo ++ todo) (f :: seen) (b ||| 1 <<< f)
theorem cloB_eq (P:Program):∀ (n:Nat) (todo seen:List Nat) (b:Nat),(∀ g,b.testBit g = seen.contains g)->P.closureVia n todo seen = cloB P n todo seen b
 | 0,_,_,_,_=>by simp only [Program.closureVia,cloB]
 | n + 1,[],_,_,_=>by simp only [Program.closureVia,cloB]
 | n + 1,f :: todo,seen,b,h=>by
  rw [Program.closureVia,cloB,<- h f]
  cases hb:Nat.testBit b f with
  | true=>simp only [if_true]; exact cloB_eq P n todo seen b h
  | false =>
   simp only [Bool.false_eq_true,if_false]; refine cloB_eq P n _ _ _ λg=>?_
   rw [Nat.testBit_or,h g,List.contains_cons,Nat.one_shiftLeft,Nat.testBit_two_pow,Bool.or_comm]
   congr 1
   by_cases hg:f = g
   ·subst hg; simp
   ·simp [hg,Ne.symm hg]
theorem fuelE:1 + (Tryz.prog.funcs.toList.map λg=>(Tryz.prog.leadsTo g).length + 1).sum = 2362:=by kernel_rfl
def cloL:List Nat:=[3,4,6,10,22,53,54,112,113,184,274,275,23,55,24,25,56,57,58,114,185,276,277,186,278,363,279,280,365,434,476,517,518,516,567,568,519,520,569,570,579,580,364,281,115,59,60,11,26,27,61,62,66,28,63,64,65,116,117,118,187,188,283,367,282,366,285,193,435,286,189,119,190,191,120,192,284,67,68,121,194,195,196,69,12,29,70,122,123,126,198,197,124,125,8,7,13,15,33,39,34,38,37,35,36,16,40,93,14,30,71,73,127,199,287,368,436,478,524,477,437,479,525,480,526,438,521,439,522,571,581,572,573,582,585,574,523,575,583,586,587,369,200,289,288,370,201,202,291,292,373,301,388,387,449,307,304,290,372,371,440,294,295,376,377,378,443,442,481,379,445,444,482,380,300,384,448,447,483,385,386,293,375,374,441,297,296,382,381,446,203,299,298,383,204,205,303,302,389,206,305,391,390,450,306,308,393,392,451,309,72,74,128,207,310,394,161,249,452,395,453,484,485,527,528,529,576,530,486,488,489,487,531,396,454,97,41,42,94,166,251,95,96,43,44,98,208,45,311,209,264,46,75,76,77,129,210,312,213,313,130,78,131,211,314,132,212,315,397,398,455,321,456,490,495,466,399,317,215,400,318,457,319,220,402,458,141,231,329,330,226,459,401,403,460,491,322,492,532,494,536,496,499,534,533,268,269,270,362,461,462,463,470,506,561,560,464,493,535,406,404,465,405,467,468,497,498,469,500,537,538,539,540,541,542,543,544,501,545,546,547,548,549,550,551,502,552,553,554,555,556,557,558,559,577,584,503,504,505,316,134,133,216,217,218,219,320,221,214,135,137,136,225,324,222,223,323,325,326,327,407,328,224,138,227,228,331,229,332,333,408,409,31,79,81,139,230,80,140,83,153,245,145,151,160,247,351,248,144,82,142,232,143,233,146,147,234,148,87,108,176,262,263,177,149,235,334,410,237,339,340,341,150,236,238,344,239,240,345,346,426,427,428,422,429,431,430,347,348,241,349,350,432,246,242,243,336,417,424,425,475,418,472,244,423,342,343,471,411,412,414,413,335,415,416,337,419,474,515,473,507,508,562,509,563,564,510,565,566,578,511,512,513,514,420,421,338,152,84,85,154,155,156,157,158,159,86,32,88,162,89,91,90,163,92,164,250,165,17,18,47,99,167,19,49,50,102,170,103,104,171,105,172,174,173,261,48,100,101,168,169,252,253,254,352,433,255,354,353,356,361,256,355,357,257,358,258,359,259,360,260,9,20,51,21,52,106,107,175,109,178,265,266,179,180,110,181,111,182,267,183,271,272,273,5]
theorem cloE:cloB Tryz.prog 2362 [3] [] 0 = cloL:=by kernel_rfl
theorem clo:Tryz.prog.closure 3 = cloL:=by
 rw [<- cloE,Program.closure,fuelE]; exact cloB_eq _ _ _ _ _ λg=>by simp
theorem inPlaceE : Tryz.prog.inPlaceOf cloL = ["internal/abi.NoEscape", "internal/bytealg.MakeNoZero", "internal/bytealg.IndexByteString", "internal/bytealg.abigen_runtime_cmpstring"] := by kernel_rfl
theorem varsE : Tryz.prog.varsOf cloL = ["strings.asciiSpace", "unicode.White_Space", "strconv.ErrSyntax", "strconv.ErrRange", "internal/strconv.uint64pow10", "math/bits.deBruijn32tab", "math/bits.deBruijn64tab", "unicode/utf8.first", "unicode/utf8.acceptRanges", "unicode.CaseRanges"] := by kernel_rfl
theorem unfE:(cloL.any λg=>(Tryz.prog.funcs[g]?).any λfn=>match fn.body with | some c=>c.unfollowed | none=>entryCalls fn) = true:=by kernel_rfl
theorem unf3:Tryz.prog.unfollowed 3 = true:=by rw [Program.unfollowed,clo]; exact unfE
theorem j10:(Rows.topCasesRow.inPlace == Tryz.prog.inPlace 3) = true:=by
 have h:Tryz.prog.inPlace 3 = Tryz.prog.inPlaceOf cloL:=by unfold Program.inPlace Program.inPlaceOf; rw [clo]
 rw [h,inPlaceE]; rfl
theorem j13:(Rows.topCasesRow.named == Tryz.prog.varsNamed 3) = true:=by
 have h:Tryz.prog.varsNamed 3 = Tryz.prog.varsOf cloL:=by unfold Program.varsNamed Program.varsOf; rw [clo]
 rw [h,varsE]; rfl
theorem j11:(Rows.topCasesRow.unfollowed == Tryz.prog.unfollowed 3) = true:=by rw [unf3]; rfl
theorem j12:(Rows.topCasesRow.recurses == Tryz.prog.recurses 3) = true:=by rw [Program.recurses,unf3]; rfl
end Go.Proofs.YtofpekbidngnfaaGreatDoor
