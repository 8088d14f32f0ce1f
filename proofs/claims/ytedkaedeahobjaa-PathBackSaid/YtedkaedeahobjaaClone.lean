/- slices.Clone and slices.Clip at []string, of an argument of whatever address. -/
import Derived.Test.YtedkaedeahobjaaNode
import Derived.Test.YtedkaedeahobjaaShelf
import Derived.ArgAppend
import Derived.Lib.SliceRun
namespace Go.Proofs.Ytedkaedeahobjaa
open Go.RowKit Go.Proofs.YtedkaedeahobjaaW.PrintWords
set_option linter.unusedVariables false
set_option linter.unusedSimpArgs false

theorem eql_nil22 (w : World) (a : Option Addr) (n c n' c' : Nat) : (binOp .eql 22 (.slice a n c) (.slice none n' c')).run Try.prog w = .ok (.bool a.isNone) w := Lib.run_eql_slice_nil w _ _ a n c n' c' Try.underlying22
theorem info_s : (Try.prog.info? 9).map (fun i => (i.zero, i.size, i.bytes)) = some (some (.string ⟨#[]⟩), 1, 16) := by kernel_rfl
set_option maxHeartbeats 2000000 in
set_option maxRecDepth 100000 in
theorem clone_calls (A : Option Addr) (c : Nat) (l : List ByteArray) (w : World) (hr : Kd.C Kd.string w A l.length l) (hbig : l.length ≤ 1000000000) :
    Calls Try.prog 27 #[.slice A l.length c] w fun e w' => ∃ v, e = .returned v ∧ Kd.R Kd.string 9 w' w.heap.size (fun _ => True) v l ∧ Below w.heap.size w w' := by
  have q22 := eql_nil22
  rcases A with _ | ad
  · obtain rfl : l = [] := by
      rcases l with _ | ⟨x, l⟩
      · rfl
      · obtain ⟨_, _, h⟩ := hr
        obtain ⟨ad, h, _⟩ := h (by simp)
        cases h
    refine (Try.slices_Clone_string_nil 0 c w).mono ?_
    rintro e w' ⟨rfl, rfl⟩
    exact ⟨_, rfl, Kd.R_nil _ _ _ _ _, Below.refl _ _⟩
  · have HR := Aside0.mk hr
    have HBG := Aside0.mk hbig
    clear hr hbig
    go_enter Try.func27, Try.ntmps27
    have HO : Aside0 (Kd.R Kd.string 9 (w.alloc (.cells #[] 9)) w.heap.size (fun _ => True) (.slice (some ⟨w.heap.size, 0, none⟩) 0 0) []) := Aside0.mk (Kd.R_of_own (enc := Value.string) (World.ownsRow_made (base := w.heap.size) (e := 9) (size := 1) w #[] 0 (Nat.le_refl _) (Nat.zero_le _) rfl) (fun _ _ => trivial))
    have HBW : Aside0 (Below w.heap.size w (w.alloc (.cells #[] 9))) := Aside0.mk ((Below.refl _ w).alloc (Nat.le_refl _) _)
    have HC : Aside0 (Kd.C Kd.string (w.alloc (.cells #[] 9)) (some ad) l.length l) := Aside0.mk (Kd.C_below HR.out HBW.out)
    go_wp2_with (at_builtin; refine Kd.R_append_row (w0 := w) Value.string ByteArray.empty w.heap.size rfl _ _ 22 9 (.string ⟨#[]⟩) 16 rfl Try.underlying22 info_s rfl (by decide) _ [] l (some ad) l.length c (fun _ => True) rfl rfl (fun _ _ => trivial) HO.out HC.out HBW.out (by simp) (by have := HBG.out; simp; omega) ?_; intro v1 w1 hv1 hb1 _ _)
    go_ret
    exact ⟨v1, rfl, hv1, hb1⟩
set_option maxHeartbeats 2000000 in
set_option maxRecDepth 100000 in
theorem clip_calls (A : Option Addr) (n c : Nat) (w : World) (hA : A = none → n = 0) (hn : n ≤ c) (hbig : n ≤ 1000000000) :
    Calls Try.prog 28 #[.slice A n c] w fun e w' => e = .returned (.slice A n n) ∧ w' = w := by
  rcases A with _ | ad
  · obtain rfl := hA rfl
    go_enter Try.func28, Try.ntmps28
    go_wp2
    go_ret
    exact ⟨rfl, rfl⟩
  · have h2 : (n : Int) ≤ (c : Int) := by omega
    go_enter Try.func28, Try.ntmps28
    go_wp2
    go_ret
    exact ⟨rfl, rfl⟩
end Go.Proofs.Ytedkaedeahobjaa
