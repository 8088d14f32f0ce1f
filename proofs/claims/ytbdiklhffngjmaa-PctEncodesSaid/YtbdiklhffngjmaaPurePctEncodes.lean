/- Proved: any numbers, told by any set. Conditions: none beyond the law's own guards (and the size of a string or slice that every row has). -/
import Derived.Test.YtbdiklhffngjmaaAll3
namespace Go.Proofs.Ytbdiklhffngjmaa.Pure
open Go.RowKit Go.Proofs.Ytbdiklhffngjmaa.PPct Go.Proofs.YtbdiklhffngjmaaW.PrintWords
theorem PctEncodes : gatepostlaw03_PctEncodes.Pure := Go.Proofs.Ytbdiklhffngjmaa.pctEncodes
end Go.Proofs.Ytbdiklhffngjmaa.Pure
