/- Proved: what is told by Component is decoded to what it was; so is what any set tells, if it has no percent sign. Conditions: none beyond the law's own guards (and the size of a string or slice that every row has). -/
import Derived.Test.YtbdiklhffngjmaaAll3
namespace Go.Proofs.Ytbdiklhffngjmaa.Pure
open Go.RowKit Go.Proofs.Ytbdiklhffngjmaa.PPct Go.Proofs.YtbdiklhffngjmaaW.PrintWords
theorem PctBack : gatepostlaw03_PctBack.Pure := Go.Proofs.Ytbdiklhffngjmaa.pctBack
end Go.Proofs.Ytbdiklhffngjmaa.Pure
