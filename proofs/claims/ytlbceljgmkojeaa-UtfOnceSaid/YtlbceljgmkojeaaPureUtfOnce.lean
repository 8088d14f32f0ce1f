/- Proved: decoded, encoded and decoded, any bytes are as decoded; bytes that are valid are their only form. Conditions: none beyond the law's own guards (and the size of a string or slice that every row has). -/
import Derived.Test.YtlbceljgmkojeaaAll
namespace Go.Proofs.Ytlbceljgmkojeaa.Pure
open Go.RowKit Go.Proofs.Ytlbceljgmkojeaa.PUtf Go.Proofs.YtlbceljgmkojeaaW.PrintWords Go.Proofs.YtlbceljgmkojeaaW.PrintLast
theorem UtfOnce : gatepostlaw02_UtfOnce.Pure := Uni.utfOnce
end Go.Proofs.Ytlbceljgmkojeaa.Pure
