/- Proved: utf.Decode tells the code points of any bytes as the reference does, and utf.Valid whether they are valid. Conditions: none beyond the law's own guards (and the size of a string or slice that every row has). -/
import Derived.Test.YtlbceljgmkojeaaAll
namespace Go.Proofs.Ytlbceljgmkojeaa.Pure
open Go.RowKit Go.Proofs.Ytlbceljgmkojeaa.PUtf Go.Proofs.YtlbceljgmkojeaaW.PrintWords Go.Proofs.YtlbceljgmkojeaaW.PrintLast
theorem UtfDecodes : gatepostlaw02_UtfDecodes.Pure := Uni.utfDecodes
end Go.Proofs.Ytlbceljgmkojeaa.Pure
