/- The law SchedPicks: what its loop knows from round to round. -/
import Derived.Test.YtglafngeeggeeaaThree
namespace Go.Proofs.Ytglafngeeggeeaa
open Go.RowKit Go.Proofs.YtglafngeeggeeaaW.PrintWords Go.Proofs.Ytglafngeeggeeaa.PSch
set_option linter.unusedVariables false
set_option linter.unusedSimpArgs false

/-- pre are the turns that are behind, r0, r1, r2 what is left of the tasks, last the last turn's task. -/
def PInv (a b c : Nat) (picks : List Int) (l pre : List S37) (r0 r1 r2 last : Int) : Prop :=
  ∃ f xs, InB (three a b c) 3 xs ∧ xs = [(a : Int) - r0, (b : Int) - r1, (c : Int) - r2] ∧ l = pre ++ turnsGo (three a b c) picks 3 f pre.length last xs (fun _ => none) ∧
    ((pre.length = 0 ∧ last = -1) ∨ (0 ≤ last ∧ last < 3 ∧ 0 < pre.length ∧ (l.getD (pre.length - 1) z37).f0 = last))
theorem three_at0 (a b c : Nat) : rd_L1 (three a b c) 0 = List.replicate a 0 := rfl
theorem three_at1 (a b c : Nat) : rd_L1 (three a b c) 1 = List.replicate b 0 := rfl
theorem three_at2 (a b c : Nat) : rd_L1 (three a b c) 2 = List.replicate c 0 := rfl
theorem PInv.bounds {a b c : Nat} {picks : List Int} {l pre : List S37} {r0 r1 r2 last : Int} (h : PInv a b c picks l pre r0 r1 r2 last) :
    (0 ≤ r0 ∧ r0 ≤ (a : Int)) ∧ (0 ≤ r1 ∧ r1 ≤ (b : Int)) ∧ (0 ≤ r2 ∧ r2 ≤ (c : Int)) := by
  obtain ⟨f, xs, hB, rfl, _, _⟩ := h
  have h0 := hB.2 0 (by decide) (by decide)
  have h1 := hB.2 1 (by decide) (by decide)
  have h2 := hB.2 2 (by decide) (by decide)
  rw [three_at0, List.length_replicate, show rd [(a : Int) - r0, (b : Int) - r1, (c : Int) - r2] 0 = (a : Int) - r0 from rfl] at h0
  rw [three_at1, List.length_replicate, show rd [(a : Int) - r0, (b : Int) - r1, (c : Int) - r2] 1 = (b : Int) - r1 from rfl] at h1
  rw [three_at2, List.length_replicate, show rd [(a : Int) - r0, (b : Int) - r1, (c : Int) - r2] 2 = (c : Int) - r2 from rfl] at h2
  omega
theorem PInv.round {a b c : Nat} {picks : List Int} {l pre : List S37} {r0 r1 r2 last : Int} (h : PInv a b c picks l pre r0 r1 r2 last) :
    pre.length = l.length ∨ (pre.length < l.length ∧ ∃ z p, l.getD pre.length z37 = ⟨z, p⟩ ∧
      (nameOf picks 3 pre.length last = 0 → 0 < r0 → z = 0) ∧ (nameOf picks 3 pre.length last = 1 → 0 < r1 → z = 1) ∧ (nameOf picks 3 pre.length last = 2 → 0 < r2 → z = 2) ∧
      ((z = 0 ∧ 0 < r0 ∧ PInv a b c picks l (pre ++ [⟨z, p⟩]) (r0 - 1) r1 r2 0) ∨ (z = 1 ∧ 0 < r1 ∧ PInv a b c picks l (pre ++ [⟨z, p⟩]) r0 (r1 - 1) r2 1) ∨ (z = 2 ∧ 0 < r2 ∧ PInv a b c picks l (pre ++ [⟨z, p⟩]) r0 r1 (r2 - 1) 2))) := by
  obtain ⟨f, xs, hB, rfl, hl, hlast⟩ := h
  rcases picks_round hB hl with he | ⟨hlt, z, z0, z1, hmo, hg, hn, f', hB', hl'⟩
  · exact .inl he
  · refine .inr ⟨hlt, z, _, hg, ?_, ?_, ?_, ?_⟩
    · intro hq hr
      rw [hq] at hn
      exact hn (by rw [three_at0, List.length_replicate, show rd [(a : Int) - r0, (b : Int) - r1, (c : Int) - r2] 0 = (a : Int) - r0 from rfl]; omega)
    · intro hq hr
      rw [hq] at hn
      exact hn (by rw [three_at1, List.length_replicate, show rd [(a : Int) - r0, (b : Int) - r1, (c : Int) - r2] 1 = (b : Int) - r1 from rfl]; omega)
    · intro hq hr
      rw [hq] at hn
      exact hn (by rw [three_at2, List.length_replicate, show rd [(a : Int) - r0, (b : Int) - r1, (c : Int) - r2] 2 = (c : Int) - r2 from rfl]; omega)
    · clear hn hl hB
      have hgf : ∀ q, z = q → 0 ≤ q → q < 3 → ∀ n, n = (pre ++ [(⟨z, rd [(a : Int) - r0, (b : Int) - r1, (c : Int) - r2] z⟩ : S37)]).length → ((n = 0 ∧ q = -1) ∨ (0 ≤ q ∧ q < 3 ∧ 0 < n ∧ (l.getD (n - 1) z37).f0 = q)) := by
        intro q hq q0 q1 n hn
        simp at hn
        subst hn
        exact .inr ⟨q0, q1, by omega, by rw [Nat.add_sub_cancel, hg]; exact hq⟩
      have hz : z = 0 ∨ z = 1 ∨ z = 2 := by omega
      have hlen : (pre ++ [(⟨z, rd [(a : Int) - r0, (b : Int) - r1, (c : Int) - r2] z⟩ : S37)]).length = pre.length + 1 := by simp
      rcases hz with rfl | rfl | rfl
      · have hm := hmo.2
        rw [three_at0, List.length_replicate, show rd [(a : Int) - r0, (b : Int) - r1, (c : Int) - r2] 0 = (a : Int) - r0 from rfl] at hm
        refine .inl ⟨rfl, by omega, f', _, hB', ?_, ?_, hgf 0 rfl (by decide) (by decide) _ rfl⟩
        · show [(a : Int) - r0 + 1, (b : Int) - r1, (c : Int) - r2] = _
          rw [show (a : Int) - (r0 - 1) = (a : Int) - r0 + 1 by omega]
        · rw [hlen]; exact hl'
      · have hm := hmo.2
        rw [three_at1, List.length_replicate, show rd [(a : Int) - r0, (b : Int) - r1, (c : Int) - r2] 1 = (b : Int) - r1 from rfl] at hm
        refine .inr (.inl ⟨rfl, by omega, f', _, hB', ?_, ?_, hgf 1 rfl (by decide) (by decide) _ rfl⟩)
        · show [(a : Int) - r0, (b : Int) - r1 + 1, (c : Int) - r2] = _
          rw [show (b : Int) - (r1 - 1) = (b : Int) - r1 + 1 by omega]
        · rw [hlen]; exact hl'
      · have hm := hmo.2
        rw [three_at2, List.length_replicate, show rd [(a : Int) - r0, (b : Int) - r1, (c : Int) - r2] 2 = (c : Int) - r2 from rfl] at hm
        refine .inr (.inr ⟨rfl, by omega, f', _, hB', ?_, ?_, hgf 2 rfl (by decide) (by decide) _ rfl⟩)
        · show [(a : Int) - r0, (b : Int) - r1, (c : Int) - r2 + 1] = _
          rw [show (c : Int) - (r2 - 1) = (c : Int) - r2 + 1 by omega]
        · rw [hlen]; exact hl'
theorem PInv.start (a b c : Nat) (picks : List Int) : PInv a b c picks (turnsOf (three a b c) picks) [] (a : Int) (b : Int) (c : Int) (-1) := by
  refine ⟨total (three a b c) + 1, _, InB.start (three a b c), ?_, ?_, .inl ⟨rfl, rfl⟩⟩
  · simp [three, List.replicate]
  · unfold turnsOf
    rw [if_neg (by simp [three])]
    rfl
end Go.Proofs.Ytglafngeeggeeaa
