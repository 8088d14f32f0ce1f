/- The contract of strings.IndexByte in the print's form: it answers what 'Lib.indexByte' says; nothing that lay before is changed. -/
import Derived.Test.YtbdiklhffngjmaaShelf
import Derived.Test.YtbdiklhffngjmaaWWords
import Derived.Below
namespace Go.Proofs.Ytbdiklhffngjmaa
open Go.RowKit Go.Proofs.YtbdiklhffngjmaaW.PrintWords
set_option linter.unusedVariables false
set_option linter.unusedSimpArgs false

def strings_IndexByte.f (a0 : ByteArray) (a1 : Int) : Option Int := some (Lib.indexByte a0.data.toList a1.toNat.toUInt8)
theorem strings_IndexByte.calls (a0 : ByteArray) (a1 r : Int) (w : World) (h : strings_IndexByte.f a0 a1 = some r) :
    Calls Try.prog 31 #[.string a0, .int .u8 a1] w fun e w' => e = .returned (.int .i64 r) ∧ Below w.heap.size w w' := by
  unfold strings_IndexByte.f at h
  obtain rfl := Option.some.inj h
  refine (Try.strings_IndexByte a0 a1 w).mono ?_
  rintro e w' ⟨rfl, rfl⟩
  exact ⟨rfl, Below.refl _ _⟩
end Go.Proofs.Ytbdiklhffngjmaa
