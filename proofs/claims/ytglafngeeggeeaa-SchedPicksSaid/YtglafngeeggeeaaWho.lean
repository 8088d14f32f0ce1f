/- Plain Lean: who has a lock, as the law SchedLocks keeps it in an array. -/
import Derived.Test.YtglafngeeggeeaaLaw3
namespace Go.Proofs.Ytglafngeeggeeaa
open Go.RowKit Go.Proofs.YtglafngeeggeeaaW.PrintWords Go.Proofs.Ytglafngeeggeeaa.PSch
set_option linter.unusedVariables false
set_option linter.unusedSimpArgs false

/-- Who has the lock k: a task's number, and one; 0: nobody. -/
def who (L : Int → Option Int) (k : Int) : Int := match L k with | some m => m + 1 | none => 0
theorem who_none {L : Int → Option Int} {k : Int} (h : L k = none) : who L k = 0 := by unfold who; rw [h]
theorem who_some {L : Int → Option Int} {k m : Int} (h : L k = some m) : who L k = m + 1 := by unfold who; rw [h]
theorem Inv.neg {ts : List (List Int)} {xs : List Int} {L : Int → Option Int} {H : Int → Int} (h : Inv ts xs L H) (hF : FewT ts) (hB : InB ts ts.length xs) (n : Int) (n0 : 0 ≤ n) (n1 : n < (ts.length : Int)) (hc : canB ts xs L n = true) (hs : stepOf ts xs n < 0) :
    L (wrap64 (-(stepOf ts xs n))) = some n := by
  have hmo := can_more hB n n0 n1 hc
  have hm := h.hm n n0 n1
  have hh := h.h0 n n0 n1
  rw [drop_rd (rd_L1 ts n) (rd xs n) hmo.1 hmo.2] at hm
  have e : rd (rd_L1 ts n) (rd xs n) = stepOf ts xs n := rfl
  rw [e] at hm
  generalize hsd : stepOf ts xs n = s at *
  simp only [mayT] at hm
  rw [if_neg (by omega), if_neg (by omega)] at hm
  by_cases e2 : s < 0 ∧ H n = wrap64 (-s)
  · have hw : 0 < wrap64 (-s) := by
      have h2 := e2.2
      rw [h2] at hh
      have hne : wrap64 (-s) ≠ 0 := by
        have hwf := step_wf ts hF xs n n0 n1 hmo
        rw [hsd, wf64_iff] at hwf
        unfold wrap64
        omega
      omega
    exact (h.hL _ _).2 ⟨n0, n1, hw, e2.2⟩
  · rw [if_neg e2] at hm; cases hm
theorem Inv.fin {ts : List (List Int)} {xs : List Int} {L : Int → Option Int} {H : Int → Int} (h : Inv ts xs L H) (hB : InB ts ts.length xs) (hno : ∀ n, 0 ≤ n → n < (ts.length : Int) → canB ts xs L n = false) (k : Int) : L k = none := by
  rcases hL : L k with _ | m
  · rfl
  · obtain ⟨m0, m1, k0, e⟩ := (h.hL k m).1 hL
    have hm := h.hm m m0 m1
    rcases Int.lt_or_le (rd xs m) ((rd_L1 ts m).length : Int) with h3 | h3
    · obtain ⟨q, q0, q1, hq⟩ := h.runs hB m m0 m1 h3
      rw [hno q q0 q1] at hq; cases hq
    · rw [List.drop_eq_nil_of_le (by omega)] at hm
      simp only [mayT, beq_iff_eq] at hm
      omega
theorem who_zero (L : Int → Option Int) (n : Int) : afterL 0 n L = L := by unfold afterL; simp
theorem who_take (L : Int → Option Int) (s n k : Int) (hs : 0 < s) : who (afterL s n L) k = if k = s then n + 1 else who L k := by
  unfold afterL who
  rw [if_neg (by omega), if_pos hs]
  by_cases e : k = s
  · rw [if_pos e, if_pos e]
  · rw [if_neg e, if_neg e]
theorem who_give (L : Int → Option Int) (s n k : Int) (hs : s < 0) (hL : L (wrap64 (-s)) = some n) : who (afterL s n L) k = if k = wrap64 (-s) then 0 else who L k := by
  unfold afterL who
  rw [if_pos hs, if_pos hL]
  by_cases e : k = wrap64 (-s)
  · rw [if_pos e, if_pos e]
  · rw [if_neg e, if_neg e]
/-- A round of the law: what the turn is, and what is next. -/
theorem locks_round {ts : List (List Int)} {picks : List Int} (hF : FewT ts) (hPT : ∀ t ∈ ts, PT t 18) (hN0 : 0 < ts.length) {f i : Nat} {last : Int} {xs : List Int} {L : Int → Option Int} {H : Int → Int} {pre l : List S37} (h : Inv ts xs L H) (hB : InB ts ts.length xs)
    (hl : l = pre ++ turnsGo ts picks ts.length f i last xs L) (hf : (total ts : Int) < xs.sum + (f : Int)) :
    (pre.length = l.length ∧ ∀ k, L k = none) ∨ (pre.length < l.length ∧ ∃ z, 0 ≤ z ∧ z < (ts.length : Int) ∧ more ts xs z ∧ l.getD pre.length z37 = ⟨z, rd xs z⟩ ∧ (-3 ≤ stepOf ts xs z ∧ stepOf ts xs z ≤ 3) ∧
      (0 < stepOf ts xs z → who L (stepOf ts xs z) = 0) ∧ (stepOf ts xs z < 0 → L (wrap64 (-(stepOf ts xs z))) = some z) ∧
      ∃ f' last' H', Inv ts (xs.set z.toNat (rd xs z + 1)) (afterL (stepOf ts xs z) z L) H' ∧ InB ts ts.length (xs.set z.toNat (rd xs z + 1)) ∧
        l = (pre ++ [⟨z, rd xs z⟩]) ++ turnsGo ts picks ts.length f' (i + 1) last' (xs.set z.toNat (rd xs z + 1)) (afterL (stepOf ts xs z) z L) ∧ (total ts : Int) < (xs.set z.toNat (rd xs z + 1)).sum + (f' : Int)) := by
  cases f with
  | zero =>
    have := (hB.sum_le rfl).1
    omega
  | succ f =>
    simp only [turnsGo] at hl
    rcases named_cases ts xs L ts.length hN0 (nameOf picks ts.length i last) with hz | ⟨z0, z1, zc⟩
    · rw [hz, if_pos (by decide), List.append_nil] at hl
      refine .inl ⟨by rw [hl], ?_⟩
      exact h.fin hB (named_neg ts xs L ts.length _ hz hN0)
    · generalize named ts xs L ts.length (nameOf picks ts.length i last) = z at *
      rw [if_neg (by omega)] at hl
      have hmo := can_more hB z z0 z1 zc
      have hlen := hB.1
      obtain ⟨H', hI⟩ := h.step hF hB z z0 z1 zc
      refine .inr ⟨by rw [hl]; simp, z, z0, z1, hmo, ?_, ?_, ?_, ?_, f, z, H', hI, hB.step z z0 z1 hmo, ?_, ?_⟩
      · rw [hl, List.getD_eq_getElem?_getD, List.getElem?_append_right (Nat.le_refl _)]
        simp
      · exact (hPT _ (rd_L1_mem ts z z0 z1)).2.2 _ (rd_mem' _ _ hmo.1 hmo.2)
      · intro _
        exact who_none ((can_iff ts xs L z).1 zc).2
      · exact fun hs => h.neg hF hB z z0 z1 zc hs
      · rw [List.append_assoc]; exact hl
      · rw [sum_set _ _ _ (by omega)]
        unfold rd
        push_cast at hf
        omega
/-- The law's loop: the turns that were looked at, and what its array holds. -/
def LP (ts : List (List Int)) (picks : List Int) (l pre : List S37) (W : Int → Int) : Prop :=
  (pre.length = l.length ∧ ∀ k, W k = 0) ∨ (0 < ts.length ∧ ∃ f i last xs L H, W = who L ∧ Inv ts xs L H ∧ InB ts ts.length xs ∧ l = pre ++ turnsGo ts picks ts.length f i last xs L ∧ (total ts : Int) < xs.sum + (f : Int))
/-- What the array holds behind a turn. -/
def put (W : Int → Int) (s z k : Int) : Int := if 0 < s ∧ k = s then z + 1 else if s < 0 ∧ k = -s then 0 else W k
theorem LP.start (ts : List (List Int)) (picks : List Int) (hm : may ts = true) : LP ts picks (turnsOf ts picks) [] (fun _ => 0) := by
  unfold turnsOf
  by_cases h0 : ts.length = 0
  · rw [if_pos h0]
    exact .inl ⟨rfl, fun _ => rfl⟩
  · rw [if_neg h0]
    refine .inr ⟨by omega, total ts + 1, 0, -1, _, fun _ => none, _, ?_, Inv.start hm, InB.start ts, rfl, ?_⟩
    · funext k; rfl
    · rw [sum_zeros]; push_cast; omega
theorem LP.round {ts : List (List Int)} {picks : List Int} (hF : FewT ts) (hPT : ∀ t ∈ ts, PT t 18) {l pre : List S37} {W : Int → Int} (h : LP ts picks l pre W) :
    (pre.length = l.length ∧ ∀ k, W k = 0) ∨ (pre.length < l.length ∧ ∃ z p s, 0 ≤ z ∧ z < (ts.length : Int) ∧ 0 ≤ p ∧ p < ((rd_L1 ts z).length : Int) ∧ l.getD pre.length z37 = ⟨z, p⟩ ∧ rd (rd_L1 ts z) p = s ∧ (-3 ≤ s ∧ s ≤ 3) ∧
      (0 < s → W s = 0) ∧ (s < 0 → W (-s) = z + 1) ∧ LP ts picks l (pre ++ [⟨z, p⟩]) (put W s z)) := by
  rcases h with h | ⟨hN0, f, i, last, xs, L, H, rfl, hI, hB, hl, hf⟩
  · exact .inl h
  · rcases locks_round hF hPT hN0 hI hB hl hf with ⟨h1, h2⟩ | ⟨h1, z, z0, z1, hmo, hg, hs, hp, hn, f', last', H', hI', hB', hl', hf'⟩
    · exact .inl ⟨h1, fun k => who_none (h2 k)⟩
    · have hw : stepOf ts xs z < 0 → wrap64 (-(stepOf ts xs z)) = -(stepOf ts xs z) := fun _ => wrap64_id _ (by omega) (by omega)
      refine .inr ⟨h1, z, rd xs z, stepOf ts xs z, z0, z1, hmo.1, hmo.2, hg, rfl, hs, hp, fun hs' => ?_, .inr ⟨hN0, f', i + 1, last', _, _, H', ?_, hI', hB', hl', hf'⟩⟩
      · have := hn hs'
        rw [hw hs'] at this
        exact who_some this
      · funext k
        unfold put
        by_cases s1 : 0 < stepOf ts xs z
        · rw [who_take _ _ _ _ s1]
          by_cases e : k = stepOf ts xs z
          · rw [if_pos ⟨s1, e⟩, if_pos e]
          · rw [if_neg (fun h => e h.2), if_neg (fun h => by omega), if_neg e]
        · by_cases s2 : stepOf ts xs z < 0
          · rw [who_give _ _ _ _ s2 (hn s2), hw s2]
            by_cases e : k = -(stepOf ts xs z)
            · rw [if_neg (fun h => s1 h.1), if_pos ⟨s2, e⟩, if_pos e]
            · rw [if_neg (fun h => s1 h.1), if_neg (fun h => e h.2), if_neg e]
          · have e0 : stepOf ts xs z = 0 := by omega
            rw [e0, who_zero, if_neg (by omega), if_neg (by omega)]
end Go.Proofs.Ytglafngeeggeeaa
