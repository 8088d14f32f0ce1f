/- Proved: whether any number is in any set. Conditions: none beyond the law's own guards (and the size of a string or slice that every row has). -/
import Derived.Test.YtbdiklhffngjmaaAll3
namespace Go.Proofs.Ytbdiklhffngjmaa.Pure
open Go.RowKit Go.Proofs.Ytbdiklhffngjmaa.PPct Go.Proofs.YtbdiklhffngjmaaW.PrintWords
theorem PctIn : gatepostlaw03_PctIn.Pure := Go.Proofs.Ytbdiklhffngjmaa.pctIn
end Go.Proofs.Ytbdiklhffngjmaa.Pure
