/- Proved: numbers are told there and back, with U+FFFD for what is no scalar. Conditions: none beyond the law's own guards (and the size of a string or slice that every row has). -/
import Derived.Test.YtlbceljgmkojeaaAll
namespace Go.Proofs.Ytlbceljgmkojeaa.Pure
open Go.RowKit Go.Proofs.Ytlbceljgmkojeaa.PUtf Go.Proofs.YtlbceljgmkojeaaW.PrintWords Go.Proofs.YtlbceljgmkojeaaW.PrintLast
theorem UtfBack : gatepostlaw02_UtfBack.Pure := Uni.utfBack
end Go.Proofs.Ytlbceljgmkojeaa.Pure
