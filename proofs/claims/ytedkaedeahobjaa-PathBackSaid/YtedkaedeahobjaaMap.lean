/- The map of bytes in a strings.genericReplacer for "%2e" and "%2E", as an array of cells. -/
import Derived.Test.YtedkaedeahobjaaRoot
namespace Go.Proofs.Ytedkaedeahobjaa
open Go.RowKit Go.Proofs.YtedkaedeahobjaaW.PrintWords
set_option linter.unusedVariables false
set_option linter.unusedSimpArgs false

theorem idx_law (AG : Array Value) (i : Nat) (v : Int) (hi : i < 256) (hx : AG[i]? = some (.int .u8 v)) (w : World) : (Instr.index 81 (.agg AG) (.int .i64 (i : Int))).run Try.prog w = .ok (.int .u8 v) w := by
  have h81 := Try.underlying81
  have hn : (0 ≤ (i : Int) ∧ (i : Int) < 256) := by omega
  have h5 := Try.sizeOf5
  have ha := Try.isAgg5
  simp [Instr.index, run_underlying h81, asIntOf, hn, go_sem, hx, h5, ha]
  intro h; omega
/-- The bytes that are met, in turn; the marks behind the first s of them. -/
def seqB : List Nat := [37, 50, 101, 37, 50, 69]
def st (s x : Nat) : Int := if (seqB.take s).contains x then 1 else 0
def cnt (i : Nat) : Int := (if 37 < i then 1 else 0) + (if 50 < i then 1 else 0) + (if 69 < i then 1 else 0) + (if 101 < i then 1 else 0)
def fin_ (x : Nat) : Int := if x = 37 then 0 else if x = 50 then 1 else if x = 69 then 2 else if x = 101 then 3 else 4
/-- The cells of the replacer: tableSize ts, table tb, the map f. -/
structure GM (M : Array Value) (ts : Int) (tb : Value) (f : Nat → Int) : Prop where
  size : M.size = 262
  m0 : M[0]? = some (.string (⟨#[]⟩ : ByteArray))
  m1 : M[1]? = some (.int .i64 0)
  m2 : M[2]? = some (.string (⟨#[]⟩ : ByteArray))
  m3 : M[3]? = some (.pointer none)
  m4 : M[4]? = some tb
  m5 : M[5]? = some (.int .i64 ts)
  map : ∀ x, x < 256 → M[6 + x]? = some (.int .u8 (f x))
theorem zero_list : Try.zeroCells100.toList = [.string (⟨#[]⟩ : ByteArray), .int .i64 0, .string (⟨#[]⟩ : ByteArray), .pointer none, .slice none 0 0, .int .i64 0] ++ List.replicate 256 (.int .u8 0) := by kernel_rfl
theorem GM.start : GM Try.zeroCells100 0 (.slice none 0 0) (st 0) := by
  have hl := zero_list
  have hs : Try.zeroCells100.size = 262 := by rw [← Array.length_toList, hl, List.length_append, List.length_replicate]; rfl
  have hg : ∀ j : Nat, Try.zeroCells100[j]? = ([.string (⟨#[]⟩ : ByteArray), .int .i64 0, .string (⟨#[]⟩ : ByteArray), .pointer none, .slice none 0 0, .int .i64 0] ++ List.replicate 256 (.int .u8 0) : List Value)[j]? := by
    intro j; rw [← Array.getElem?_toList, hl]
  refine ⟨hs, ?_, ?_, ?_, ?_, ?_, ?_, ?_⟩
  · rw [hg]; rfl
  · rw [hg]; rfl
  · rw [hg]; rfl
  · rw [hg]; rfl
  · rw [hg]; rfl
  · rw [hg]; rfl
  · intro x hx
    rw [hg, List.getElem?_append_right (Nat.le_add_right 6 x), List.getElem?_replicate, if_pos (by show 6 + x - 6 < 256; omega)]
    rfl
theorem GM.put {M : Array Value} {ts : Int} {tb : Value} {f : Nat → Int} (h : GM M ts tb f) (c : Nat) (hc : c < 256) (v : Int) : GM (M.setIfInBounds (6 + c) (.int .u8 v)) ts tb (fun x => if x = c then v else f x) := by
  have e : ∀ j, j < 6 → (M.setIfInBounds (6 + c) (.int .u8 v))[j]? = M[j]? := fun j hj => by rw [Array.getElem?_setIfInBounds, if_neg (by omega)]
  refine ⟨by simpa using h.size, by rw [e 0 (by omega)]; exact h.m0, by rw [e 1 (by omega)]; exact h.m1, by rw [e 2 (by omega)]; exact h.m2, by rw [e 3 (by omega)]; exact h.m3, by rw [e 4 (by omega)]; exact h.m4, by rw [e 5 (by omega)]; exact h.m5, fun x hx => ?_⟩
  rw [Array.getElem?_setIfInBounds]
  by_cases hxc : x = c
  · subst hxc; rw [if_pos rfl, if_pos (by rw [h.size]; omega), if_pos rfl]
  · rw [if_neg (by omega), if_neg hxc]; exact h.map x hx
theorem GM.putSize {M : Array Value} {ts : Int} {tb : Value} {f : Nat → Int} (h : GM M ts tb f) (v : Int) : GM (M.setIfInBounds 5 (.int .i64 v)) v tb f := by
  have e : ∀ j, j ≠ 5 → (M.setIfInBounds 5 (.int .i64 v))[j]? = M[j]? := fun j hj => by rw [Array.getElem?_setIfInBounds, if_neg (by omega)]
  refine ⟨by simpa using h.size, by rw [e 0 (by omega)]; exact h.m0, by rw [e 1 (by omega)]; exact h.m1, by rw [e 2 (by omega)]; exact h.m2, by rw [e 3 (by omega)]; exact h.m3, by rw [e 4 (by omega)]; exact h.m4, ?_, fun x hx => by rw [e _ (by omega)]; exact h.map x hx⟩
  rw [Array.getElem?_setIfInBounds, if_pos rfl, if_pos (by rw [h.size]; omega)]
theorem GM.putTable {M : Array Value} {ts : Int} {tb : Value} {f : Nat → Int} (h : GM M ts tb f) (v : Value) : GM (M.setIfInBounds 4 v) ts v f := by
  have e : ∀ j, j ≠ 4 → (M.setIfInBounds 4 v)[j]? = M[j]? := fun j hj => by rw [Array.getElem?_setIfInBounds, if_neg (by omega)]
  refine ⟨by simpa using h.size, by rw [e 0 (by omega)]; exact h.m0, by rw [e 1 (by omega)]; exact h.m1, by rw [e 2 (by omega)]; exact h.m2, by rw [e 3 (by omega)]; exact h.m3, ?_, by rw [e 5 (by omega)]; exact h.m5, fun x hx => by rw [e _ (by omega)]; exact h.map x hx⟩
  rw [Array.getElem?_setIfInBounds, if_pos rfl, if_pos (by rw [h.size]; omega)]
theorem GM.congr {M : Array Value} {ts : Int} {tb : Value} {f g : Nat → Int} (h : GM M ts tb f) (e : ∀ x, x < 256 → f x = g x) : GM M ts tb g := ⟨h.size, h.m0, h.m1, h.m2, h.m3, h.m4, h.m5, fun x hx => by rw [← e x hx]; exact h.map x hx⟩
theorem st_succ (s c : Nat) (hs : seqB[s]? = some c) (x : Nat) : (if x = c then (1 : Int) else st s x) = st (s + 1) x := by
  unfold st
  have hlt := (List.getElem?_eq_some_iff.1 hs).1
  rw [List.take_add_one, hs]
  by_cases h : x = c
  · rw [if_pos h, h]; simp
  · rw [if_neg h]
    simp [h]
theorem st6 (x : Nat) : st 6 x = if x = 37 ∨ x = 50 ∨ x = 69 ∨ x = 101 then 1 else 0 := by
  unfold st seqB
  simp
  by_cases h : x = 37 ∨ x = 50 ∨ x = 69 ∨ x = 101
  · rw [if_pos h, if_pos (by omega)]
  · rw [if_neg h, if_neg (by omega)]
theorem cnt_succ (i : Nat) : cnt (i + 1) = cnt i + st 6 i := by
  rw [st6]
  unfold cnt
  repeat' split
  all_goals omega
theorem cnt_range (i : Nat) : 0 ≤ cnt i ∧ cnt i ≤ 4 := by
  unfold cnt
  repeat' split
  all_goals omega
theorem cnt_all (i : Nat) (h : 101 < i) : cnt i = 4 := by
  unfold cnt
  rw [if_pos (by omega), if_pos (by omega), if_pos (by omega), if_pos h]
  rfl
/-- The map while it is numbered: below i as it will be, from i on the marks. -/
def md (i x : Nat) : Int := if x < i then fin_ x else st 6 x
theorem md_zero (x : Nat) : st 6 x = md 0 x := rfl
theorem md_all (x : Nat) (h : x < 256) : md 256 x = fin_ x := by unfold md; rw [if_pos h]
theorem md_mark (i x : Nat) (h : st 6 i = 1) : (if x = i then cnt i else md i x) = md (i + 1) x := by
  rw [st6] at h
  unfold md
  by_cases hx : x = i
  · subst hx
    rw [if_pos rfl, if_pos (by omega)]
    split at h
    · rename_i hh
      rcases hh with rfl | rfl | rfl | rfl <;> rfl
    · exact absurd h (by decide)
  · rw [if_neg hx]
    by_cases hxi : x < i
    · rw [if_pos hxi, if_pos (by omega)]
    · rw [if_neg hxi, if_neg (by omega)]
theorem md_bare (i x : Nat) (h : st 6 i = 0) : (if x = i then (4 : Int) else md i x) = md (i + 1) x := by
  rw [st6] at h
  unfold md
  by_cases hx : x = i
  · subst hx
    rw [if_pos rfl, if_pos (by omega)]
    split at h
    · exact absurd h (by decide)
    · rename_i hh
      unfold fin_
      rw [if_neg (by omega), if_neg (by omega), if_neg (by omega), if_neg (by omega)]
  · rw [if_neg hx]
    by_cases hxi : x < i
    · rw [if_pos hxi, if_pos (by omega)]
    · rw [if_neg hxi, if_neg (by omega)]
theorem st6_cases (x : Nat) : st 6 x = 0 ∨ st 6 x = 1 := by
  rw [st6]; split <;> simp
end Go.Proofs.Ytedkaedeahobjaa
