/- Plain Lean: the turns that the reference finds are those of the program; each task's steps have their turn in turn; tasks that may come to their ends all do. -/
import Derived.Test.YtglafngeeggeeaaEvs
import Derived.Test.YtglafngeeggeeaaPSchx4
import Derived.Test.YtglafngeeggeeaaPSchx5
namespace Go.Proofs.Ytglafngeeggeeaa
open Go.RowKit Go.Proofs.YtglafngeeggeeaaW.PrintWords Go.Proofs.Ytglafngeeggeeaa.PSch
set_option linter.unusedVariables false
set_option linter.unusedSimpArgs false

/-! ### at, held, can -/
def cnt : List S41 → Int → Int
  | [], _ => 0
  | t :: l, n => (if t.f0 = n then 1 else 0) + cnt l n
theorem cnt_append (l : List S41) (t : S41) (n : Int) : cnt (l ++ [t]) n = cnt l n + (if t.f0 = n then 1 else 0) := by
  induction l with
  | nil => simp [cnt]
  | cons a l ih => simp only [List.cons_append, cnt]; rw [ih]; omega
theorem at_ev (acc : List S41) (n : Int) (hl : acc.length ≤ 100000000) : ∀ m j (c : Int), acc.length - j = m → j ≤ acc.length → 0 ≤ c → c ≤ (j : Int) → Ev (fun k => gatepostref22_at.l0 k acc n c (j : Int)) (c + cnt (acc.drop j) n) := by
  intro m
  induction m with
  | zero =>
    intro j c hm hj c0 c1
    obtain rfl : j = acc.length := by omega
    refine Ev.succ (h := fun _ => some c) (fun k => ?_) (by rw [List.drop_length]; simp only [cnt, Int.add_zero]; exact Ev.done c)
    simp only [gatepostref22_at.l0]; rw [if_neg (by omega)]
  | succ m ih =>
    intro j c hm hj c0 c1
    have hj1 : wrap64 ((j : Int) + 1) = ((j + 1 : Nat) : Int) := by rw [wrap64_id _ (by omega) (by omega)]; rfl
    rw [drop_getD acc z41 j (by omega)]
    by_cases e : (acc.getD j z41).f0 = n
    · have := ih (j + 1) (c + 1) (by omega) (by omega) (by omega) (by push_cast; omega)
      refine Ev.succ (fun k => ?_) (show Ev (fun k => gatepostref22_at.l0 k acc n (c + 1) ((j + 1 : Nat) : Int)) _ from by
        rw [show c + cnt (acc.getD j z41 :: acc.drop (j + 1)) n = c + 1 + cnt (acc.drop (j + 1)) n by simp only [cnt]; rw [if_pos e]; omega]; exact this)
      simp only [gatepostref22_at.l0]
      rw [if_pos (by omega), if_pos (by omega), rd_T41_nat, if_pos e, hj1, wrap64_id _ (by omega) (by omega)]
    · have := ih (j + 1) c (by omega) (by omega) (by omega) (by push_cast; omega)
      refine Ev.succ (fun k => ?_) (show Ev (fun k => gatepostref22_at.l0 k acc n c ((j + 1 : Nat) : Int)) _ from by
        rw [show c + cnt (acc.getD j z41 :: acc.drop (j + 1)) n = c + cnt (acc.drop (j + 1)) n by simp only [cnt]; rw [if_neg e]; omega]; exact this)
      simp only [gatepostref22_at.l0]
      rw [if_pos (by omega), if_pos (by omega), rd_T41_nat, if_neg e, hj1]
theorem at_f (acc : List S41) (n : Int) (hl : acc.length ≤ 100000000) : Ev (fun k => gatepostref22_at.f k acc n) (cnt acc n) := by
  have := at_ev acc n hl _ 0 0 rfl (by omega) (by omega) (by omega)
  simpa [gatepostref22_at.f] using this
/-- A turn's step. -/
def stp (ts : List (List Int)) (t : S41) : Int := rd (rd_L1 ts t.f0) t.f1
def heldS (ts : List (List Int)) (k : Int) (w : Int) (t : S41) : Int :=
  if stp ts t < 0 ∧ stp ts t = wrap64 (-k) ∧ (if stp ts t = k then t.f0 else w) = t.f0 then -1 else if stp ts t = k then t.f0 else w
def Valid (ts : List (List Int)) (t : S41) : Prop := 0 ≤ t.f0 ∧ t.f0 < (ts.length : Int) ∧ 0 ≤ t.f1 ∧ t.f1 < ((rd_L1 ts t.f0).length : Int)
theorem held_ev (ts : List (List Int)) (acc : List S41) (x : Int) (hl : acc.length ≤ 100000000) (hv : ∀ t ∈ acc, Valid ts t) : ∀ m j (w : Int), acc.length - j = m → j ≤ acc.length → Ev (fun k => gatepostref22_held.l0 k ts acc x w (j : Int)) ((acc.drop j).foldl (heldS ts x) w) := by
  intro m
  induction m with
  | zero =>
    intro j w hm hj
    obtain rfl : j = acc.length := by omega
    refine Ev.succ (h := fun _ => some w) (fun k => ?_) (by rw [List.drop_length]; exact Ev.done w)
    simp only [gatepostref22_held.l0]; rw [if_neg (by omega)]
  | succ m ih =>
    intro j w hm hj
    have hj1 : wrap64 ((j : Int) + 1) = ((j + 1 : Nat) : Int) := by rw [wrap64_id _ (by omega) (by omega)]; rfl
    have hvj := hv (acc.getD j z41) (by rw [List.getD_eq_getElem?_getD, List.getElem?_eq_getElem (by omega : j < acc.length)]; exact List.getElem_mem _)
    have := ih (j + 1) (heldS ts x w (acc.getD j z41)) (by omega) (by omega)
    rw [drop_getD acc z41 j (by omega), List.foldl_cons]
    refine Ev.succ (fun k => ?_) this
    simp only [gatepostref22_held.l0]
    rw [if_pos (by omega), if_pos (by omega), rd_T41_nat]
    generalize acc.getD j z41 = t at *
    obtain ⟨v0, v1, v2, v3⟩ := hvj
    rw [if_pos v0, if_pos v1, if_pos v2, if_pos v3, hj1]
    unfold heldS
    have hS : rd (rd_L1 ts t.f0) t.f1 = stp ts t := rfl
    simp only [hS]
    by_cases e : stp ts t = x
    · rw [if_pos e]
      simp only [if_pos e]
      by_cases e1 : stp ts t < 0
      · by_cases e2 : stp ts t = wrap64 (-x)
        · rw [if_pos e1, if_pos e2, if_pos trivial, if_pos ⟨e1, e2, trivial⟩]
        · rw [if_pos e1, if_neg e2, if_neg (fun h => e2 h.2.1)]
      · rw [if_neg e1, if_neg (fun h => e1 h.1)]
    · rw [if_neg e]
      simp only [if_neg e]
      by_cases e1 : stp ts t < 0
      · by_cases e2 : stp ts t = wrap64 (-x)
        · rw [if_pos e1, if_pos e2]
          by_cases e3 : w = t.f0
          · rw [if_pos e3, if_pos ⟨e1, e2, e3⟩]
          · rw [if_neg e3, if_neg (fun h => e3 h.2.2)]
        · rw [if_pos e1, if_neg e2, if_neg (fun h => e2 h.2.1)]
      · rw [if_neg e1, if_neg (fun h => e1 h.1)]
theorem held_f (ts : List (List Int)) (acc : List S41) (x : Int) (hl : acc.length ≤ 100000000) (hv : ∀ t ∈ acc, Valid ts t) : Ev (fun k => gatepostref22_held.f k ts acc x) (acc.foldl (heldS ts x) (-1)) := by
  have := held_ev ts acc x hl hv _ 0 (-1) rfl (by omega)
  simpa [gatepostref22_held.f] using this

/-- The turns so far, and what a run keeps. -/
structure Rel (ts : List (List Int)) (acc : List S41) (xs : List Int) (L : Int → Option Int) (last : Int) : Prop where
  cn : ∀ n, 0 ≤ n → n < (ts.length : Int) → cnt acc n = rd xs n
  hk : ∀ k, 0 < k → wf64 k → acc.foldl (heldS ts k) (-1) = (L k).getD (-1)
  Lp : ∀ k m, L k = some m → 0 < k ∧ 0 ≤ m
  val : ∀ t ∈ acc, Valid ts t
  la : (acc = [] ∧ last = -1) ∨ (acc ≠ [] ∧ (rd_T41 acc ((acc.length : Int) - 1)).f0 = last ∧ 0 ≤ last ∧ last < (ts.length : Int))
theorem Rel.start (ts : List (List Int)) : Rel ts [] (List.replicate ts.length 0) (fun _ => none) (-1) := by
  refine ⟨fun n _ _ => ?_, fun k _ _ => rfl, fun k m h => (by cases h), fun t h => (by cases h), .inl ⟨rfl, rfl⟩⟩
  unfold rd
  simp [cnt, List.getD_eq_getElem?_getD, List.getElem?_replicate]
  split <;> rfl
theorem Rel.step {ts : List (List Int)} {acc : List S41} {xs : List Int} {L : Int → Option Int} {last : Int} (h : Rel ts acc xs L last) (hF : FewT ts) (hB : InB ts ts.length xs) (n : Int) (n0 : 0 ≤ n) (n1 : n < (ts.length : Int)) (hc : canB ts xs L n = true) :
    Rel ts (acc ++ [⟨n, rd xs n⟩]) (xs.set n.toNat (rd xs n + 1)) (afterL (stepOf ts xs n) n L) n := by
  have hmo := can_more hB n n0 n1 hc
  have hwf := step_wf ts hF xs n n0 n1 hmo
  rw [wf64_iff] at hwf
  have hlen := hB.1
  refine ⟨fun m m0 m1 => ?_, fun k k0 kw => ?_, fun k m hk => ?_, fun t ht => ?_, .inr ⟨by simp, ?_, n0, n1⟩⟩
  · rw [cnt_append, h.cn m m0 m1, rd_set xs n m _ n0 (by omega) m0]
    dsimp only
    by_cases e : m = n
    · subst e; rw [if_pos rfl, if_pos rfl]
    · rw [if_neg (fun h => e h.symm), if_neg e]; omega
  · rw [List.foldl_append, h.hk k k0 kw]
    rw [wf64_iff] at kw
    simp only [List.foldl_cons, List.foldl_nil]
    unfold heldS
    have hs : stp ts ⟨n, rd xs n⟩ = stepOf ts xs n := rfl
    rw [hs]
    dsimp only
    generalize stepOf ts xs n = s at *
    unfold afterL
    by_cases sn : s < 0
    · rw [if_pos sn]
      have ek : s ≠ k := by omega
      simp only [if_neg ek]
      by_cases e1 : s = wrap64 (-k)
      · have e1' : k = wrap64 (-s) := by revert e1; unfold wrap64; omega
        by_cases e2 : L k = some n
        · rw [if_pos ⟨sn, e1, by rw [e2]; rfl⟩, if_pos (by rw [← e1']; exact e2), if_pos e1']; rfl
        · have hne : ¬ (L k).getD (-1) = n := by
            intro h3
            rcases hL : L k with _ | m
            · rw [hL] at h3; simp only [Option.getD_none] at h3; omega
            · rw [hL] at h3; simp only [Option.getD_some] at h3; exact e2 (by rw [hL, h3])
          rw [if_neg (fun hh => hne hh.2.2), if_neg (by rw [← e1']; exact e2)]
      · have e1' : k ≠ wrap64 (-s) := by intro h; apply e1; revert h; unfold wrap64; omega
        rw [if_neg (fun hh => e1 hh.2.1)]
        by_cases e2 : L (wrap64 (-s)) = some n
        · rw [if_pos e2, if_neg e1']
        · rw [if_neg e2]
    · rw [if_neg sn, if_neg (fun hh => sn hh.1)]
      by_cases sp : 0 < s
      · rw [if_pos sp]
        by_cases e : s = k
        · rw [if_pos e, if_pos e.symm]; rfl
        · rw [if_neg e, if_neg (fun h => e h.symm)]
      · rw [if_neg sp, if_neg (by omega)]
  · generalize stepOf ts xs n = s at *
    unfold afterL at hk
    split at hk
    · split at hk
      · dsimp only at hk
        split at hk
        · cases hk
        · exact h.Lp k m hk
      · exact h.Lp k m hk
    · split at hk
      · dsimp only at hk
        split at hk
        · rename_i h1 h2
          have := Option.some.inj hk
          omega
        · exact h.Lp k m hk
      · exact h.Lp k m hk
  · rcases List.mem_append.1 ht with ht | ht
    · exact h.val t ht
    · rw [List.mem_singleton.1 ht]
      exact ⟨n0, n1, hmo.1, hmo.2⟩
  · unfold rd_T41
    rw [List.length_append, show ((((acc.length + [(⟨n, rd xs n⟩ : S41)].length : Nat) : Int)) - 1).toNat = acc.length by simp, List.getD_eq_getElem?_getD, List.getElem?_append_right (by omega)]
    simp
theorem can_f {ts : List (List Int)} {acc : List S41} {xs : List Int} {L : Int → Option Int} {last : Int} (h : Rel ts acc xs L last) (hF : FewT ts) (hB : InB ts ts.length xs) (hl : acc.length ≤ 100000000) (n : Int) (n0 : 0 ≤ n) (n1 : n < (ts.length : Int)) :
    Ev (fun k => gatepostref22_can.f k ts acc n) (canB ts xs L n) := by
  have h1 := at_f acc n hl
  rw [h.cn n n0 n1] at h1
  have hb := hB.2 n n0 n1
  unfold gatepostref22_can.f
  refine Ev.bind h1 ?_
  simp only [if_pos n0, if_pos n1]
  by_cases e : rd xs n = ((rd_L1 ts n).length : Int)
  · simp only [if_pos e]
    rw [show canB ts xs L n = false by unfold canB; simp [e]]
    exact Ev.done false
  · have hmo : more ts xs n := ⟨hb.1, by omega⟩
    have hwf := step_wf ts hF xs n n0 n1 hmo
    simp only [if_neg e, if_pos hb.1, if_pos hmo.2]
    have hs : rd (rd_L1 ts n) (rd xs n) = stepOf ts xs n := rfl
    simp only [hs]
    have hcb : canB ts xs L n = !(L (stepOf ts xs n)).isSome := by unfold canB; simp [e]
    rw [hcb]
    by_cases s0 : stepOf ts xs n ≤ 0
    · simp only [if_pos s0]
      rcases hL : L (stepOf ts xs n) with _ | m
      · exact Ev.done true
      · have := (h.Lp _ _ hL).1; omega
    · simp only [if_neg s0]
      refine Ev.bind (held_f ts acc _ hl h.val) ?_
      rw [h.hk _ (by omega) hwf]
      rcases hL : L (stepOf ts xs n) with _ | m
      · exact Ev.done true
      · have := (h.Lp _ _ hL).2
        simp only [Option.getD_some, Option.isSome_some, Bool.not_true]
        rw [decide_eq_false (by omega)]
        exact Ev.done false
end Go.Proofs.Ytglafngeeggeeaa
