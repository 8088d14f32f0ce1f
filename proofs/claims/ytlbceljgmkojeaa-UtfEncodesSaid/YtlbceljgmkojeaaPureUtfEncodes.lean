/- Proved: utf.Encode tells the bytes of any numbers as the reference does. Conditions: none beyond the law's own guards (and the size of a string or slice that every row has). -/
import Derived.Test.YtlbceljgmkojeaaAll
namespace Go.Proofs.Ytlbceljgmkojeaa.Pure
open Go.RowKit Go.Proofs.Ytlbceljgmkojeaa.PUtf Go.Proofs.YtlbceljgmkojeaaW.PrintWords Go.Proofs.YtlbceljgmkojeaaW.PrintLast
theorem UtfEncodes : gatepostlaw02_UtfEncodes.Pure := Uni.utfEncodes
end Go.Proofs.Ytlbceljgmkojeaa.Pure
