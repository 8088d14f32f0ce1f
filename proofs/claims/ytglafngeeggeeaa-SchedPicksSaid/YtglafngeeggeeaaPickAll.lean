/- The law function SchedPicks returns true whatever it is given. -/
import Derived.Test.YtglafngeeggeeaaPicks
namespace Go.Proofs.Ytglafngeeggeeaa
open Go.RowKit Go.Proofs.YtglafngeeggeeaaW.PrintWords Go.Proofs.YtglafngeeggeeaaW.PrintLast Go.Proofs.Ytglafngeeggeeaa.PSch
set_option linter.unusedVariables false
set_option linter.unusedSimpArgs false

set_option maxRecDepth 100000 in
set_option maxHeartbeats 4000000 in
theorem picks_many (a b c : Int) (A1 : Option Addr) (cp n1 : Nat) (w : World) (k : Nat) (hawake : gatepostlaw22_awake.f k = some true) (hp : ¬ n1 ≤ 100) :
    Calls Try.prog 7 #[.agg #[.int .u8 a, .int .u8 b, .int .u8 c], .slice A1 n1 cp] w fun e w' => e = .returned (.bool true) ∧ Below w.heap.size w w' := by
  have HAw := Aside0.mk hawake
  clear hawake
  have b0 : decide ((n1 : Int) > 100) = true := decide_eq_true (by omega)
  have b1 : decide (100 < (n1 : Int)) = true := decide_eq_true (by omega)
  have b2 : decide (100 < n1) = true := decide_eq_true (by omega)
  go_enter Try.func7, Try.ntmps7
  go_wp2_with (first | (go_at_call 8; (with_reducible refine (gatepostlaw22_awake.calls k true _ HAw.out).mono ?_); rintro e w5 ⟨rfl, hb⟩; have HB5 := Aside0.mk (((Below.refl w.heap.size w).alloc (Nat.le_refl _) (.cells #[.int .u8 a, .int .u8 b, .int .u8 c] 39)).trans (hb.mono (by simp))); clear hb))
  go_ret
  exact ⟨rfl, HB5.out⟩
/-- SchedPicks returns true. -/
theorem picks_true (a b c : Int) (ha : 0 ≤ a ∧ a ≤ 255) (hb : 0 ≤ b ∧ b ≤ 255) (hc : 0 ≤ c ∧ c ≤ 255) (A1 : Option Addr) (cp : Nat) (picks : List Int) (w : World) (hr1 : Kd.C (Kd.int .i64) w A1 picks.length picks) (hc1 : picks.length ≤ cp) :
    Calls Try.prog 7 #[.agg #[.int .u8 a, .int .u8 b, .int .u8 c], .slice A1 picks.length cp] w fun e w' => e = .returned (.bool true) ∧ Below w.heap.size w w' := by
  obtain ⟨k0, h0⟩ := awake_f
  by_cases hp : picks.length ≤ 100
  · exact picks_some a b c ha.1 ha.2 hb.1 hb.2 hc.1 hc.2 (a % 16).toNat (b % 16).toNat (c % 16).toNat (by omega) (by omega) (by omega) A1 cp picks w hr1 hc1 k0 (h0 _ (Nat.le_refl _)) hp
  · exact picks_many a b c A1 cp _ w k0 (h0 _ (Nat.le_refl _)) hp
end Go.Proofs.Ytglafngeeggeeaa
