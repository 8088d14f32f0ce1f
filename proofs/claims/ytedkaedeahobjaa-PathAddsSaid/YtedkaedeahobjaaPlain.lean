/- (*strings.Replacer).Replace, strings.NewReplacer, path.plain. -/
import Derived.Test.YtedkaedeahobjaaRepl2
namespace Go.Proofs.Ytedkaedeahobjaa
open Go.RowKit Go.Proofs.YtedkaedeahobjaaW.PrintWords
set_option linter.unusedVariables false
set_option linter.unusedSimpArgs false

theorem info_str : (Try.prog.info? 9).map (fun i => (i.zero, i.size, i.bytes)) = some (some (.string ⟨#[]⟩), 1, 16) := by kernel_rfl
theorem method_rp (a : Addr) (w : World) : (method 252 79 (.pointer (some a)) "Replace").run Try.prog w = .ok (100, .pointer (some a)) w := by kernel_rfl
def four : List Value := [.string ⟨#[37, 50, 101]⟩, .string ⟨#[46]⟩, .string ⟨#[37, 50, 69]⟩, .string ⟨#[46]⟩]
set_option maxHeartbeats 4000000 in
set_option maxRecDepth 100000 in
theorem newrep_walk (b cp : Nat) (w : World) (hp : Pairs w b) :
    Calls Try.prog 37 #[.slice (some ⟨b, 0, none⟩) 4 cp] w fun e w' => ∃ r c cp', e = .returned (.pointer (some ⟨r, 0, none⟩)) ∧ Rw w' r 0 0 0 .nilIface (.slice (some ⟨c, 0, none⟩) 4 cp') ∧ Pairs w' c ∧ c < w'.heap.size ∧ c ≠ r ∧ w.heap.size ≤ r ∧ w.heap.size ≤ c ∧ Below w.heap.size w w' := by
  obtain ⟨i0, hi, hz0, hz1, hz2⟩ := info_parts info_str
  have HP := Aside0.mk hp
  clear hp
  go_enter Try.func37, Try.ntmps37
  go_wp2_with (at_builtin; refine wpList_append_own _ rfl _ _ 22 rfl w.heap.size 9 i0 (.string ⟨#[]⟩) 1 16 Try.underlying22 hi hz0 hz1 hz2 rfl (by decide) _ _ _ rfl (own_nil w w.heap.size 9 1) ⟨b, 0, none⟩ 4 cp four rfl ?qc1 ?qc2 ?qc3 ?qc4 ?qc5 ?qc6 ?_)
  case qc1 => rfl
  case qc2 =>
    obtain ⟨h0, h1, h2, h3⟩ := HP.out
    intro j u hj
    match j, hj with
    | 0, hj => simp [four] at hj; subst hj; exact h0
    | 1, hj => simp [four] at hj; subst hj; exact h1
    | 2, hj => simp [four] at hj; subst hj; exact h2
    | 3, hj => simp [four] at hj; subst hj; exact h3
    | (j + 4), hj => simp [four] at hj
  case qc3 => intro u hu; simp [four] at hu; rcases hu with rfl | rfl | rfl | rfl <;> rfl
  case qc4 => decide
  case qc5 => decide
  case qc6 => exact Nat.le_refl _
  intro v' w1 hown hgrow hnil
  obtain ⟨g, cap, cur, rfl, hg, hrow, hn, hmx, hsz, htk⟩ : ∃ g cap cur, v' = .slice (some ⟨g, 0, none⟩) 4 cap ∧ w.heap.size ≤ g ∧ w1.heap[g]? = some (.cells cur 9 (0, 0)) ∧ 4 ≤ cap ∧ cap ≤ maxLen ∧ cur.size = cap * 1 ∧ cur.toList.take (4 * 1) = four := by
    rcases hown.2 with ⟨_, h0⟩ | h
    · omega
    · simpa using h
  have HB1 : Aside0 (Below w.heap.size w w1) := Aside0.mk ((Below.refl _ w).grown hgrow (Nat.le_refl _) (by intro k hk; simp [Value.ownBlock] at hk))
  go_wp2
  have hgl : g < w1.heap.size := (Array.getElem?_eq_some_iff.1 hrow).1
  have hcs := hown.cells (g := g) rfl
  have hP1 : Pairs w1 g := ⟨hcs 0 _ rfl, hcs 1 _ rfl, hcs 2 _ rfl, hcs 3 _ rfl⟩
  have hM : Mod w1 (w1.alloc (.cells #[.int .u32 0, .int .i32 0, .int .u32 0, .nilIface, .slice (some ⟨g, 0, none⟩) 4 cap] 67)) (fun _ => False) := (Mod.refl w1 _).alloc _
  go_ret
  exact ⟨w1.heap.size, g, cap, rfl, one_new _ _ _ rfl, hP1.mod hM hgl (fun h => h), by rw [World.size_alloc]; omega, by omega, HB1.out.size, hg, HB1.out.alloc HB1.out.size _⟩

set_option maxHeartbeats 4000000 in
set_option maxRecDepth 100000 in
theorem replace_walk (r c cp : Nat) (s : ByteArray) (w : World) (h : Rw w r 0 0 0 .nilIface (.slice (some ⟨c, 0, none⟩) 4 cp)) (hp : Pairs w c) (hc : c < w.heap.size) (hcr : c ≠ r) (hs : s.size ≤ 1000000000) :
    Calls Try.prog 38 #[.pointer (some ⟨r, 0, none⟩), .string s] w fun e w' => e = .returned (.string ⟨(rep s.data.toList).toArray⟩) ∧ Mod w w' (fun i => i = r) := by
  have H := Aside0.mk h
  have HP := Aside0.mk hp
  have HS := Aside0.mk hs
  have hmf : ∀ (fn : Fn) (first cap : Array Value) (w : World), (Instr.makeFunc fn first cap).run Try.prog w = .ok (.func fn first cap) w := fun _ _ _ _ => rfl
  have hme := method_rp
  clear h hp hs
  go_enter Try.func38, Try.ntmps38
  go_wp2_with (first | (go_at_call 41; refine (do_walk r c cp w H.out HP.out hc hcr).mono ?_; rintro e w1 ⟨rfl, g, hR, hG, hM⟩; have c3 := hR.c3; have HG := Aside0.mk hG; have HM := Aside0.mk hM; clear hG hM hR) | (go_at_call 100; refine (genrep_walk w.heap.size g s _ HG.out HS.out).mono ?_; rintro e w2 ⟨rfl, hB2⟩; have HB2 := Aside0.mk hB2; clear hB2))
  go_ret
  exact ⟨rfl, HM.out.trans (Mod.ofBelow HB2.out (fun _ => False)) (fun _ _ h => h.elim)⟩

def path_plain.f (s : ByteArray) : Option ByteArray := if s.size ≤ 1000000000 then some ⟨(rep s.data.toList).toArray⟩ else none
set_option maxHeartbeats 4000000 in
set_option maxRecDepth 100000 in
theorem plain_walk (s : ByteArray) (w : World) (hs : s.size ≤ 1000000000) :
    Calls Try.prog 29 #[.string s] w fun e w' => e = .returned (.string ⟨(rep s.data.toList).toArray⟩) ∧ Below w.heap.size w w' := by
  have HS := Aside0.mk hs
  clear hs
  go_enter Try.func29, Try.ntmps29
  have hr0 : (w.alloc (.cells #[.string ⟨#[37, 50, 101]⟩, .string ⟨#[46]⟩, .string ⟨#[37, 50, 69]⟩, .string ⟨#[46]⟩] 9)).heap[w.heap.size]? = _ := one_new _ _ _ rfl
  have HP : Aside0 (Pairs (w.alloc (.cells #[.string ⟨#[37, 50, 101]⟩, .string ⟨#[46]⟩, .string ⟨#[37, 50, 69]⟩, .string ⟨#[46]⟩] 9)) w.heap.size) := Aside0.mk ⟨by simp, by simp, by simp, by simp⟩
  have HB0 : Aside0 (Below w.heap.size w (w.alloc (.cells #[.string ⟨#[37, 50, 101]⟩, .string ⟨#[46]⟩, .string ⟨#[37, 50, 69]⟩, .string ⟨#[46]⟩] 9))) := Aside0.mk ((Below.refl _ w).alloc (Nat.le_refl _) _)
  clear hr0
  go_wp2_with (first | (go_at_call 37; refine (newrep_walk w.heap.size 4 _ HP.out).mono ?_; rintro e w1 ⟨r, c, cp', rfl, hR, hP, hc, hcr, hr, hcg, hB⟩; have HR := Aside0.mk hR; have HQ := Aside0.mk hP; have HB1 := Aside0.mk hB; clear hR hP hB) | (go_at_call 38; refine (replace_walk r c cp' s _ HR.out HQ.out hc hcr HS.out).mono ?_; rintro e w2 ⟨rfl, hM⟩; have HM := Aside0.mk hM; clear hM))
  go_ret
  have hr' : w.heap.size ≤ r := by rw [World.size_alloc] at hr; omega
  refine ⟨rfl, (HB0.out.trans (HB1.out.mono (by rw [World.size_alloc]; omega))).trans (HM.out.below (Nat.le_trans (by rw [World.size_alloc]; omega) HB1.out.size) (fun i e => by omega))⟩
end Go.Proofs.Ytedkaedeahobjaa
