/- Plain Lean, no program: the turns of tasks by picks: tasks that may come to their ends all do; each step has its turn in turn. -/
import Derived.Test.YtglafngeeggeeaaOrder
namespace Go.Proofs.Ytglafngeeggeeaa
open Go.RowKit Go.Proofs.YtglafngeeggeeaaW.PrintWords Go.Proofs.Ytglafngeeggeeaa.PSch
set_option linter.unusedVariables false
set_option linter.unusedSimpArgs false

/-- Does a task come to its end, when it has the lock h (0: none)? -/
def mayT : Int → List Int → Bool
  | h, [] => h == 0
  | h, s :: l => if s = 0 then mayT h l else if 0 < s ∧ h = 0 then mayT s l else if s < 0 ∧ h = wrap64 (-s) then mayT 0 l else false
def may (ts : List (List Int)) : Bool := ts.all (mayT 0)
theorem drop_rd (l : List Int) (i : Int) (h0 : 0 ≤ i) (h1 : i < (l.length : Int)) : l.drop i.toNat = rd l i :: l.drop (i + 1).toNat := by
  have h : i.toNat < l.length := by omega
  rw [List.drop_eq_getElem_cons h, show (i + 1).toNat = i.toNat + 1 by omega]
  unfold rd
  rw [List.getD_eq_getElem?_getD, List.getElem?_eq_getElem h]
  rfl
/-- Who has which lock: task n has H n (0: none). -/
structure Inv (ts : List (List Int)) (xs : List Int) (L : Int → Option Int) (H : Int → Int) : Prop where
  h0 : ∀ n, 0 ≤ n → n < (ts.length : Int) → 0 ≤ H n
  hm : ∀ n, 0 ≤ n → n < (ts.length : Int) → mayT (H n) ((rd_L1 ts n).drop (rd xs n).toNat) = true
  hL : ∀ k m, L k = some m ↔ (0 ≤ m ∧ m < (ts.length : Int) ∧ 0 < k ∧ H m = k)
theorem Inv.start {ts : List (List Int)} (hm : may ts = true) : Inv ts (List.replicate ts.length 0) (fun _ => none) (fun _ => 0) := by
  refine ⟨fun n _ _ => Int.le_refl _, fun n h0 h1 => ?_, fun k m => ⟨fun h => (by cases h), fun ⟨_, _, h, h'⟩ => absurd h' (by omega)⟩⟩
  have : rd (List.replicate ts.length 0) n = 0 := by
    unfold rd
    simp [List.getD_eq_getElem?_getD, List.getElem?_replicate]
    split <;> rfl
  rw [this]
  exact List.all_eq_true.1 hm _ (rd_L1_mem ts n h0 h1)
theorem Inv.pos {ts : List (List Int)} {xs : List Int} {L : Int → Option Int} {H : Int → Int} (h : Inv ts xs L H) {k m : Int} (hk : L k = some m) : 0 < k := ((h.hL k m).1 hk).2.2.1
theorem can_iff (ts : List (List Int)) (xs : List Int) (L : Int → Option Int) (n : Int) : canB ts xs L n = true ↔ (rd xs n ≠ ((rd_L1 ts n).length : Int) ∧ L (stepOf ts xs n) = none) := by
  unfold canB
  simp [Option.isSome_iff_ne_none]
theorem Inv.step {ts : List (List Int)} {xs : List Int} {L : Int → Option Int} {H : Int → Int} (h : Inv ts xs L H) (hF : FewT ts) (hB : InB ts ts.length xs) (n : Int) (n0 : 0 ≤ n) (n1 : n < (ts.length : Int)) (hc : canB ts xs L n = true) :
    ∃ H', Inv ts (xs.set n.toNat (rd xs n + 1)) (afterL (stepOf ts xs n) n L) H' := by
  have hmo := can_more hB n n0 n1 hc
  have hlen := hB.1
  have hwf := step_wf ts hF xs n n0 n1 hmo
  rw [wf64_iff] at hwf
  have hdrop := drop_rd (rd_L1 ts n) (rd xs n) hmo.1 hmo.2
  have hL0 := ((can_iff ts xs L n).1 hc).2
  have hm := h.hm n n0 n1
  have hh := h.h0 n n0 n1
  rw [hdrop] at hm
  have hs : rd (rd_L1 ts n) (rd xs n) = stepOf ts xs n := rfl
  rw [hs] at hm
  generalize stepOf ts xs n = s at *
  simp only [mayT] at hm
  have hrd : ∀ m, 0 ≤ m → rd (xs.set n.toNat (rd xs n + 1)) m = if m = n then rd xs n + 1 else rd xs m := fun m m0 => rd_set xs n m _ n0 (by omega) m0
  have key : ∀ v : Int, 0 ≤ v → mayT v ((rd_L1 ts n).drop (rd xs n + 1).toNat) = true → ∀ L', (∀ k m, L' k = some m ↔ (0 ≤ m ∧ m < (ts.length : Int) ∧ 0 < k ∧ (if m = n then v else H m) = k)) → Inv ts (xs.set n.toNat (rd xs n + 1)) L' (fun m => if m = n then v else H m) := by
    intro v hv hmv L' hL'
    refine ⟨fun m m0 m1 => ?_, fun m m0 m1 => ?_, hL'⟩
    · show 0 ≤ (if m = n then v else H m)
      split
      · exact hv
      · exact h.h0 m m0 m1
    · rw [hrd m m0]
      show mayT (if m = n then v else H m) _ = true
      split
      · rename_i e; subst e; exact hmv
      · exact h.hm m m0 m1
  unfold afterL
  by_cases s0 : s = 0
  · rw [if_pos s0] at hm
    rw [if_neg (by omega), if_neg (by omega)]
    refine ⟨_, key (H n) hh hm L ?_⟩
    intro k m
    rw [h.hL k m]
    by_cases e : m = n
    · subst e; rw [if_pos rfl]
    · rw [if_neg e]
  · rw [if_neg s0] at hm
    by_cases sp : 0 < s ∧ H n = 0
    · rw [if_pos sp] at hm
      rw [if_neg (by omega), if_pos sp.1]
      refine ⟨_, key s (by omega) hm _ ?_⟩
      intro k m
      by_cases ek : k = s
      · subst ek
        rw [if_pos rfl]
        constructor
        · intro e
          obtain rfl : n = m := Option.some.inj e
          exact ⟨n0, n1, sp.1, if_pos rfl⟩
        · rintro ⟨m0, m1, _, e⟩
          by_cases em : m = n
          · subst em; rfl
          · rw [if_neg em] at e
            have := (h.hL k m).2 ⟨m0, m1, sp.1, e⟩
            rw [hL0] at this
            cases this
      · rw [if_neg ek, h.hL k m]
        by_cases em : m = n
        · subst em
          rw [if_pos rfl]
          constructor
          · rintro ⟨_, _, a, b⟩; omega
          · rintro ⟨_, _, a, b⟩; omega
        · rw [if_neg em]
    · rw [if_neg sp] at hm
      by_cases sn : s < 0 ∧ H n = wrap64 (-s)
      · rw [if_pos sn] at hm
        have hw : 0 < wrap64 (-s) := by
          have h1 := sn.1
          have h2 := sn.2
          rw [h2] at hh
          revert hh
          unfold wrap64
          omega
        have hLs : L (wrap64 (-s)) = some n := (h.hL _ _).2 ⟨n0, n1, hw, sn.2⟩
        rw [if_pos sn.1, if_pos hLs]
        refine ⟨_, key 0 (Int.le_refl _) hm _ ?_⟩
        intro k m
        by_cases ek : k = wrap64 (-s)
        · subst ek
          rw [if_pos rfl]
          constructor
          · intro e; cases e
          · rintro ⟨m0, m1, _, e⟩
            by_cases em : m = n
            · subst em; rw [if_pos rfl] at e; omega
            · rw [if_neg em] at e
              have := (h.hL _ m).2 ⟨m0, m1, hw, e⟩
              rw [hLs] at this
              exact absurd (Option.some.inj this).symm em
        · rw [if_neg ek, h.hL k m]
          by_cases em : m = n
          · subst em
            rw [if_pos rfl]
            constructor
            · rintro ⟨_, _, a, b⟩; exact absurd (b.symm.trans sn.2) ek
            · rintro ⟨_, _, a, b⟩; omega
          · rw [if_neg em]
      · rw [if_neg sn] at hm
        cases hm
/-- Not all have come to their ends: one can run. -/
theorem Inv.runs {ts : List (List Int)} {xs : List Int} {L : Int → Option Int} {H : Int → Int} (h : Inv ts xs L H) (hB : InB ts ts.length xs) (n : Int) (n0 : 0 ≤ n) (n1 : n < (ts.length : Int)) (hn : rd xs n < ((rd_L1 ts n).length : Int)) :
    ∃ m, 0 ≤ m ∧ m < (ts.length : Int) ∧ canB ts xs L m = true := by
  by_cases hc : L (stepOf ts xs n) = none
  · exact ⟨n, n0, n1, (can_iff ts xs L n).2 ⟨by omega, hc⟩⟩
  · obtain ⟨m, hm⟩ := Option.ne_none_iff_exists'.1 hc
    have h2 := (h.hL _ _).1 hm
    obtain ⟨m0, m1, sp, hH⟩ := h2
    have hmm := h.hm m m0 m1
    have hb := hB.2 m m0 m1
    have hlt : rd xs m < ((rd_L1 ts m).length : Int) := by
      rcases Int.lt_or_le (rd xs m) ((rd_L1 ts m).length : Int) with h3 | h3
      · exact h3
      · rw [List.drop_eq_nil_of_le (by omega)] at hmm
        simp [mayT] at hmm
        omega
    rw [drop_rd _ _ hb.1 hlt] at hmm
    have hs : rd (rd_L1 ts m) (rd xs m) = stepOf ts xs m := rfl
    rw [hs] at hmm
    refine ⟨m, m0, m1, (can_iff ts xs L m).2 ⟨by omega, ?_⟩⟩
    rcases hq : L (stepOf ts xs m) with _ | q
    · rfl
    · have hp := h.pos hq
      simp only [mayT] at hmm
      rw [if_neg (by omega), if_neg (by omega), if_neg (by omega)] at hmm
      cases hmm
/-- -1 names none. -/
theorem named_neg (ts : List (List Int)) (xs : List Int) (L : Int → Option Int) (N : Nat) (s : Int) (h : named ts xs L N s = -1) (hN : 0 < N) : ∀ n, 0 ≤ n → n < (N : Int) → canB ts xs L n = false := by
  intro n n0 n1
  unfold named at h
  rcases hf : (((List.range N).map fun (k : Nat) => (s + (k : Int)) % (N : Int)).find? (canB ts xs L)) with _ | m
  · rw [List.find?_eq_none] at hf
    have hmem : n ∈ ((List.range N).map fun (k : Nat) => (s + (k : Int)) % (N : Int)) := by
      refine List.mem_map.2 ⟨((n - s) % (N : Int)).toNat, ?_, ?_⟩
      · have := Int.emod_lt_of_pos (n - s) (show (0 : Int) < (N : Int) by omega)
        have h2 := Int.emod_nonneg (n - s) (show (N : Int) ≠ 0 by omega)
        rw [List.mem_range]; omega
      · have h2 := Int.emod_nonneg (n - s) (show (N : Int) ≠ 0 by omega)
        rw [Int.toNat_of_nonneg h2, Int.add_emod_emod, show s + (n - s) = n by omega]
        exact Int.emod_eq_of_lt n0 n1
    simpa using hf n hmem
  · rw [hf] at h
    have h2 := List.mem_of_find?_eq_some hf
    obtain ⟨i, _, rfl⟩ := List.mem_map.1 h2
    have := Int.emod_nonneg (s + (i : Int)) (show (N : Int) ≠ 0 by omega)
    simp at h
    omega
/-- All at their ends: the sum. -/
theorem sum_full {ts : List (List Int)} {xs : List Int} (hB : InB ts ts.length xs) (hx : ∀ n : Int, 0 ≤ n → n < (ts.length : Int) → ((rd_L1 ts n).length : Int) ≤ rd xs n) : xs.sum = (total ts : Int) := by
  unfold total
  obtain ⟨hl, hh⟩ := hB
  induction ts generalizing xs with
  | nil =>
    have : xs = [] := List.eq_nil_of_length_eq_zero (by simpa using hl)
    subst this; simp
  | cons t ts ih =>
    rcases xs with _ | ⟨x, xs⟩
    · simp at hl
    · have h0 := hh 0 (by omega) (by simp)
      have h1 := hx 0 (by omega) (by simp)
      have := @ih xs (fun n n0 n1 => by
        have := hx (n + 1) (by omega) (by simp only [List.length_cons]; omega)
        have e : (n + 1).toNat = n.toNat + 1 := by omega
        simpa [rd, rd_L1, e] using this) (by simpa using hl) (fun n n0 n1 => by
        have := hh (n + 1) (by omega) (by simp only [List.length_cons]; omega)
        have e : (n + 1).toNat = n.toNat + 1 := by omega
        simpa [rd, rd_L1, e] using this)
      simp [rd, rd_L1] at h0 h1
      simp only [List.sum_cons, List.map_cons]
      omega
end Go.Proofs.Ytglafngeeggeeaa
