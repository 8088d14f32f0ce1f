/- Proved: what a set tells has no code point of it, but percent signs; told once more it is the same. Conditions: none beyond the law's own guards (and the size of a string or slice that every row has). -/
import Derived.Test.YtbdiklhffngjmaaAll3
namespace Go.Proofs.Ytbdiklhffngjmaa.Pure
open Go.RowKit Go.Proofs.Ytbdiklhffngjmaa.PPct Go.Proofs.YtbdiklhffngjmaaW.PrintWords
theorem PctSafe : gatepostlaw03_PctSafe.Pure := Go.Proofs.Ytbdiklhffngjmaa.pctSafe
end Go.Proofs.Ytbdiklhffngjmaa.Pure
