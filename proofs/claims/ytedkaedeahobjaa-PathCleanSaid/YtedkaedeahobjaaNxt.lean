/- The contracts of strings.IndexByte and path.plain in the print's form. -/
import Derived.Test.YtedkaedeahobjaaPlain
import Derived.Below
namespace Go.Proofs.Ytedkaedeahobjaa
open Go.RowKit Go.Proofs.YtedkaedeahobjaaW.PrintWords
set_option linter.unusedVariables false
set_option linter.unusedSimpArgs false

def strings_IndexByte.f (a0 : ByteArray) (a1 : Int) : Option Int := some (Lib.indexByte a0.data.toList a1.toNat.toUInt8)
theorem strings_IndexByte.calls (a0 : ByteArray) (a1 r : Int) (w : World) (h : strings_IndexByte.f a0 a1 = some r) :
    Calls Try.prog 33 #[.string a0, .int .u8 a1] w fun e w' => e = .returned (.int .i64 r) ∧ Below w.heap.size w w' := by
  unfold strings_IndexByte.f at h
  obtain rfl := Option.some.inj h
  refine (Try.strings_IndexByte a0 a1 w).mono ?_
  rintro e w' ⟨rfl, rfl⟩
  exact ⟨rfl, Below.refl _ _⟩
theorem path_plain.calls (a0 : ByteArray) (r : ByteArray) (w : World) (h : path_plain.f a0 = some r) :
    Calls Try.prog 29 #[.string a0] w fun e w' => e = .returned (.string r) ∧ Below w.heap.size w w' := by
  unfold path_plain.f at h
  split at h
  · rename_i hh
    obtain rfl := Option.some.inj h
    exact plain_walk a0 w hh
  · cases h
end Go.Proofs.Ytedkaedeahobjaa
