/- Plain Lean: what the law PathTells comes to is true. No condition. -/
import Derived.Test.YtedkaedeahobjaaTell
namespace Go.Proofs.Ytedkaedeahobjaa.Pure
open Go.Proofs.Ytedkaedeahobjaa.PPth
theorem PathTells : gatepostlaw11_PathTells.Pure := tells_pure
end Go.Proofs.Ytedkaedeahobjaa.Pure
