/- The closure of pct.Encode: it writes a byte as a percent sign and two figures. -/
import Derived.Test.YtbdiklhffngjmaaBuilder
import Derived.Test.YtbdiklhffngjmaaWWords
import Derived.Test.YtbdiklhffngjmaaWMore
import Derived.ChangeAlike
import Derived.Lib.Hide
import Derived.Deep.RegionWith
namespace Go.Proofs.Ytbdiklhffngjmaa
open Go.RowKit Go.Proofs.YtbdiklhffngjmaaW.PrintWords
set_option linter.unusedVariables false
set_option linter.unusedSimpArgs false

def hexd (n : Int) : Int := if n < 10 then 48 + n else 55 + n
theorem fig (n : Int) (h : 0 ≤ n ∧ n < 16) (p : n.toNat < (⟨#[48, 49, 50, 51, 52, 53, 54, 55, 56, 57, 65, 66, 67, 68, 69, 70]⟩ : ByteArray).size) :
    (((⟨#[48, 49, 50, 51, 52, 53, 54, 55, 56, 57, 65, 66, 67, 68, 69, 70]⟩ : ByteArray)[n.toNat]'p).toNat : Int) = hexd n := by
  have : n = 0 ∨ n = 1 ∨ n = 2 ∨ n = 3 ∨ n = 4 ∨ n = 5 ∨ n = 6 ∨ n = 7 ∨ n = 8 ∨ n = 9 ∨ n = 10 ∨ n = 11 ∨ n = 12 ∨ n = 13 ∨ n = 14 ∨ n = 15 := by omega
  rcases this with rfl | rfl | rfl | rfl | rfl | rfl | rfl | rfl | rfl | rfl | rfl | rfl | rfl | rfl | rfl | rfl <;> rfl
set_option maxHeartbeats 2000000 in
set_option maxRecDepth 100000 in
theorem sign_calls (B b : Nat) (bs : List Value) (c : Int) (c0 : 0 ≤ c) (c1 : c ≤ 255) (w : World) (h : Lib.IsBuilder 36 5 B b bs w) (hlen : bs.length + 3 ≤ 140737488355328) (hBw : B ≤ w.heap.size) :
    Calls Try.prog 19 #[.int .u8 c, .pointer (some ⟨b, 0, none⟩)] w fun e w' => e = .returned (.tuple #[]) ∧ Lib.IsBuilder 36 5 B b (bs ++ [.int .u8 37, .int .u8 (hexd (c / 16)), .int .u8 (hexd (c % 16))]) w' ∧ Below B w w' := by
  go_enter Try.func19, Try.ntmps19
  go_wp2_with (go_at_call 20; refine (bd_byteIn B b bs 37 _ h (by omega) hBw).mono ?_)
  rintro e w1 ⟨rfl, h1, hb1⟩
  go_wp2_with (go_at_call 20; refine (bd_byteIn B b _ _ _ (Or.inr h1) (by simp; omega) (by have := hb1.size; omega)).mono ?_)
  rintro e w2 ⟨rfl, h2, hb2⟩
  go_wp2_with (go_at_call 20; refine (bd_byteIn B b _ _ _ (Or.inr h2) (by simp; omega) (by have := hb1.size; have := hb2.size; omega)).mono ?_)
  rintro e w3 ⟨rfl, h3, hb3⟩
  go_wp2
  go_end0
  refine ⟨rfl, Or.inr ?_, (hb1.trans hb2).trans hb3⟩
  simp only [fig _ ‹0 ≤ c / 16 ∧ c / 16 < 16›, fig _ ‹0 ≤ c % 16 ∧ c % 16 < 16›] at h3
  simpa using h3
end Go.Proofs.Ytbdiklhffngjmaa
