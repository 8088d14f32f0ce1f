/- Proved: bytes that are valid, ahead of any others, are decoded for themselves. Conditions: none beyond the law's own guards (and the size of a string or slice that every row has). -/
import Derived.Test.YtlbceljgmkojeaaAll
namespace Go.Proofs.Ytlbceljgmkojeaa.Pure
open Go.RowKit Go.Proofs.Ytlbceljgmkojeaa.PUtf Go.Proofs.YtlbceljgmkojeaaW.PrintWords Go.Proofs.YtlbceljgmkojeaaW.PrintLast
theorem UtfJoins : gatepostlaw02_UtfJoins.Pure := Uni.utfJoins
end Go.Proofs.Ytlbceljgmkojeaa.Pure
