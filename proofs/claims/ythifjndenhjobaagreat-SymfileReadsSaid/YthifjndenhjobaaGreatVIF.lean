/- Copies; Good; IfaceGoods. -/
import Derived.Test.YthifjndenhjobaaGreatVIE
set_option linter.unusedSectionVars false
set_option linter.unusedSimpArgs false
set_option linter.unusedVariables false
set_option maxHeartbeats 4000000
set_option maxRecDepth 20000
namespace Go.Proofs.YthifjndenhjobaaGreat
open Go.RowKit
theorem igood16_c {f : Fc} (hf : FIn f) (hs : Small f.types) (H : List ABlk) : ACalls Tryz.prog 34 [f.av] H fun v H' => v = bv (cdec (FaceP f)) /\ H' = H :=
 (igood_of hf (R := FrameP f) (fun H => framed_c hf hs H) H).mono fun v H' h => by
   obtain ⟨⟨B, h1, h2⟩, h3⟩ := h; exact ⟨cdec_of ⟨B, h1, h2.trans ⟨fun k => ⟨k.1.toShapeP, k.2⟩, fun k => ⟨k.frame, k.num⟩⟩⟩, h3⟩
end Go.Proofs.YthifjndenhjobaaGreat
