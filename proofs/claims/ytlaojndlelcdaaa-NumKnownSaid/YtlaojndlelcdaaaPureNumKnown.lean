/- NumKnown, a closed statement, is true: what chapter 4 says of ends, of what is too long. No condition. -/
import Derived.Test.YtlaojndlelcdaaaPx5
namespace Go.Proofs.Ytlaojndlelcdaaa.Pure
open Go.RowKit Go.Proofs.Ytlaojndlelcdaaa.P Go.Proofs.YtlaojndlelcdaaaW.PrintWords Go.Proofs.YtlaojndlelcdaaaW.PrintLast Go.Proofs.YtlaojndlelcdaaaW.PrintMore
theorem NumKnown : tallymanlaw4_NumKnown.Pure := ⟨60, by decide +kernel⟩
end Go.Proofs.Ytlaojndlelcdaaa.Pure
