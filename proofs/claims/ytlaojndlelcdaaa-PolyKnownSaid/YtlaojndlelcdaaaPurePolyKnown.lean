/- PolyKnown, a closed statement, is true: what chapter 3 says of nothing, of parts. No condition. -/
import Derived.Test.YtlaojndlelcdaaaPx14
namespace Go.Proofs.Ytlaojndlelcdaaa.Pure
open Go.RowKit Go.Proofs.Ytlaojndlelcdaaa.P Go.Proofs.YtlaojndlelcdaaaW.PrintWords Go.Proofs.YtlaojndlelcdaaaW.PrintLast Go.Proofs.YtlaojndlelcdaaaW.PrintMore
theorem PolyKnown : tallymanlaw3_PolyKnown.Pure := ⟨400, by decide +kernel⟩
end Go.Proofs.Ytlaojndlelcdaaa.Pure
