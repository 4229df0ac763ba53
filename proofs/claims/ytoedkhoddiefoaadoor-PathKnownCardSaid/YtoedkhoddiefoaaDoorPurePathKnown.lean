/- PathKnown: a closed statement: the kernel works it out. -/
import Derived.Test.YtoedkhoddiefoaaDoorPx5
namespace Go.Proofs.YtoedkhoddiefoaaDoor.Pure
open Go.RowKit Go.Proofs.YtoedkhoddiefoaaDoor.P Go.Proofs.YtoedkhoddiefoaaDoorW.PrintWords Go.Proofs.YtoedkhoddiefoaaDoorW.PrintLast
theorem PathKnown : tallymanlaw7_PathKnown.Pure := ⟨40, by decide +kernel⟩
end Go.Proofs.YtoedkhoddiefoaaDoor.Pure
