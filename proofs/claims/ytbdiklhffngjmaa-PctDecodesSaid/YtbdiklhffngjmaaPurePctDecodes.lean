/- Proved: the bytes of any text; there are no more than it has; without percent signs it is as it was. Conditions: none beyond the law's own guards (and the size of a string or slice that every row has). -/
import Derived.Test.YtbdiklhffngjmaaAll3
namespace Go.Proofs.Ytbdiklhffngjmaa.Pure
open Go.RowKit Go.Proofs.Ytbdiklhffngjmaa.PPct Go.Proofs.YtbdiklhffngjmaaW.PrintWords
theorem PctDecodes : gatepostlaw03_PctDecodes.Pure := Go.Proofs.Ytbdiklhffngjmaa.pctDecodes
end Go.Proofs.Ytbdiklhffngjmaa.Pure
