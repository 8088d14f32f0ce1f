/- (*strings.genericReplacer).lookup for "%2e" and "%2E". -/
import Derived.Test.YtedkaedeahobjaaOnce
import Derived.Test.YtedkaedeahobjaaShelf
import Derived.OwnWalk
import Derived.Laws.Closers25
namespace Go.Proofs.Ytedkaedeahobjaa
open Go.RowKit Go.Proofs.YtedkaedeahobjaaW.PrintWords
set_option linter.unusedVariables false
set_option linter.unusedSimpArgs false

/-- Byte i of s. -/
def btn (s : ByteArray) (i : Nat) : Nat := (s.data.getD i 0).toNat
theorem bt_get (s : ByteArray) (i : Nat) (h : i < s.size) : (s[i]'h).toNat = btn s i := by
  unfold btn
  rw [Array.getD_eq_getD_getElem?, Array.getElem?_eq_getElem h]; rfl
theorem bt_cut (s : ByteArray) (i j : Nat) : btn (s.extract i s.size) j = btn s (i + j) := by
  unfold btn
  rw [Array.getD_eq_getD_getElem?, Array.getD_eq_getD_getElem?, ByteArray.data_extract, Array.getElem?_extract]
  by_cases h : j < min s.size s.data.size - i
  · rw [if_pos h]
  · rw [if_neg h, Array.getElem?_eq_none (by have : s.size = s.data.size := rfl; omega)]
theorem cut_size (s : ByteArray) (i : Nat) : (s.extract i s.size).size = s.size - i := by
  rw [ByteArray.size_extract]; omega
theorem bt_lt (s : ByteArray) (i : Nat) : btn s i < 256 := by unfold btn; exact UInt8.toNat_lt _
theorem eq_nil (s : ByteArray) (h : s.size = 0) : s = ⟨#[]⟩ := by
  obtain ⟨d⟩ := s
  have : d.size = 0 := h
  rw [Array.eq_empty_of_size_eq_zero this]
theorem ne_mt (s : ByteArray) (h : 0 < s.size) : s.toList.isEmpty = false := by
  rw [← decide_eq_emptyBytes]
  exact decide_eq_false (by rintro rfl; exact absurd h (by decide))
theorem pre_two (s : ByteArray) : Lib.hasPrefix s.data.toList [50] = decide (0 < s.size ∧ btn s 0 = 50) := by
  obtain ⟨⟨l⟩⟩ := s
  cases l with
  | nil => rfl
  | cons x l =>
    show (([50] : List UInt8).isPrefixOf (x :: l)) = _
    have e : btn ⟨⟨x :: l⟩⟩ 0 = x.toNat := rfl
    have e2 : (0 < ByteArray.size ⟨⟨x :: l⟩⟩) := by show 0 < (x :: l).length; simp
    rw [e]
    simp only [List.isPrefixOf, Bool.and_true]
    by_cases hx : x = 50
    · subst hx; simp [e2]
    · have : ¬ x.toNat = 50 := fun h => hx (UInt8.toNat_inj.1 (by simpa using h))
      simp [this]
      exact fun h => hx h.symm
/-- Does s begin with a dot that is spelled by its number? -/
def lk (s : ByteArray) : Bool := decide (3 ≤ s.size ∧ btn s 0 = 37 ∧ btn s 1 = 50 ∧ (btn s 2 = 101 ∨ btn s 2 = 69))

/-- What lookup answers. -/
def look (s : ByteArray) : Value := if lk s then .tuple #[.string ⟨#[46]⟩, .int .i64 3, .bool true] else .tuple #[.string ⟨#[]⟩, .int .i64 0, .bool false]
theorem look_no {s : ByteArray} (h : lk s = false) : .tuple #[.string ⟨#[]⟩, .int .i64 0, .bool false] = look s := by unfold look; rw [h]; rfl
theorem look_yes {s : ByteArray} (h : lk s = true) : .tuple #[.string ⟨#[46]⟩, .int .i64 3, .bool true] = look s := by unfold look; rw [h]; rfl
theorem pc {B : Nat} {w w' : World} (h : Below B w w') {p : Addr} {v : Value} (hp : w.cell? p = some v) (hB : B = w.heap.size) : w'.cell? p = some v := by
  subst hB; exact pw_cell_below h hp
set_option maxHeartbeats 4000000 in
set_option maxRecDepth 100000 in
theorem look_walk (B g : Nat) (s : ByteArray) (w : World) (hG : GR w B g) (hs : s.size = 0 ∨ (0 < s.size ∧ btn s 0 = 37)) :
    Calls Try.prog 103 #[.pointer (some ⟨g, 0, none⟩), .string s, .bool false] w fun e w' => e = .returned (look s) ∧ Below w.heap.size w w' := by
  obtain ⟨M, T, n1, n3, T3, k, m, ⟨b1, b2, b3, b4, b5, b6, b7⟩, hg, hM, hT, hn1, hn3, hT3, hk, hm⟩ := hG
  have hmix : Try.prog.follows .mixedOrders = true := by kernel_rfl
  have hnq := neq_nil
  have G0 := Aside0.mk (cell_of w g 0 M hg hM.m0)
  have G1 := Aside0.mk (cell_of w g 1 M hg hM.m1)
  have G2 := Aside0.mk (cell_of w g 2 M hg hM.m2)
  have G4 := Aside0.mk (cell_of w g 4 M hg hM.m4)
  have G5 := Aside0.mk (cell_of w g 5 M hg hM.m5)
  have GM' : Aside0 (∀ x, x < 256 → w.cell? ⟨g, 6 + x, none⟩ = some (.int .u8 (fin_ x))) := Aside0.mk (fun x hx => cell_of w g (6 + x) M hg (hM.map x hx))
  have T0 := Aside0.mk (show w.cell? ⟨T, 0, none⟩ = some (.pointer (some ⟨n1, 0, none⟩)) by have := cell_of_row w T 0 _ _ _ hT; simpa using this)
  have U0 := Aside0.mk (show w.cell? ⟨T3, 0, none⟩ = some (.pointer none) by have := cell_of_row w T3 0 _ _ _ hT3; simpa using this)
  have U1 := Aside0.mk (show w.cell? ⟨T3, 1, none⟩ = some (.pointer none) by have := cell_of_row w T3 1 _ _ _ hT3; simpa using this)
  have U2 := Aside0.mk (show w.cell? ⟨T3, 2, none⟩ = some (.pointer (some ⟨k, 0, none⟩)) by have := cell_of_row w T3 2 _ _ _ hT3; simpa using this)
  have U3 := Aside0.mk (show w.cell? ⟨T3, 3, none⟩ = some (.pointer (some ⟨m, 0, none⟩)) by have := cell_of_row w T3 3 _ _ _ hT3; simpa using this)
  have N1 := Aside0.mk hn1
  have N3 := Aside0.mk hn3
  have NK := Aside0.mk hk
  have NM := Aside0.mk hm
  have HS := Aside0.mk hs
  clear hg hM hT hn1 hn3 hT3 hk hm hs
  go_enter Try.func103, Try.ntmps103
  go_wp2
  go_loopw [1, 9, 10, 11, 6, 7, 8] (fun v1 v9 v10 v11 v6 v7 v8 wr => v9 = .int .i64 0 ∧ v6 = .string ⟨#[]⟩ ∧ v7 = .int .i64 0 ∧ v8 = .bool false ∧ Below w.heap.size w wr ∧
    ((v1 = .string s ∧ v10 = .pointer (some ⟨g, 0, none⟩) ∧ v11 = .int .i64 0) ∨
     (0 < s.size ∧ btn s 0 = 37 ∧ v1 = .string (s.extract 1 s.size) ∧ v10 = .pointer (some ⟨n1, 0, none⟩) ∧ v11 = .int .i64 1) ∨
     (1 < s.size ∧ btn s 0 = 37 ∧ btn s 1 = 50 ∧ (∃ k2 : ByteArray, k2.size = s.size - 2 ∧ btn k2 0 = btn s 2 ∧ v1 = .string k2) ∧ v10 = .pointer (some ⟨n3, 0, none⟩) ∧ v11 = .int .i64 2) ∨
     (lk s = false ∧ v10 = .pointer none ∧ (∃ k3, v1 = .string k3) ∧ (v11 = .int .i64 1 ∨ v11 = .int .i64 3)) ∨
     (lk s = true ∧ (∃ k3, v1 = .string k3) ∧ v11 = .int .i64 3 ∧ ∃ n p, v10 = .pointer (some ⟨n, 0, none⟩) ∧ (p = 2 ∨ p = 4) ∧ Node w n (⟨#[46]⟩ : ByteArray) p (⟨#[]⟩ : ByteArray) (.pointer none) (.slice none 0 0))))
    (fun _ _ _ v11 _ _ _ _ => 10 - (intOf v11).toNat)
  case atStart => exact ⟨rfl, rfl, rfl, rfl, Below.refl _ _, .inl ⟨rfl, rfl, rfl⟩⟩
  case round =>
    obtain ⟨rfl, rfl, rfl, rfl, hB, h⟩ := hrel
    have HB := Aside0.mk hB
    rcases h with ⟨rfl, rfl, rfl⟩ | ⟨hs0, h0, rfl, rfl, rfl⟩ | ⟨hs1, h0, h1, ⟨k2, hk2, hb2, rfl⟩, rfl, rfl⟩ | ⟨hl, rfl, ⟨k3, rfl⟩, hn⟩ | ⟨hl, ⟨k3, rfl⟩, rfl, n, p, rfl, hp, hN⟩
    · have g1 := pc hB G1.out rfl
      have g2 := pc hB G2.out rfl
      have g4 := pc hB G4.out rfl
      have g5 := pc hB G5.out rfl
      have gm : wr.cell? ⟨g, 43, none⟩ = some (.int .u8 0) := pc hB (GM'.out 37 (by omega)) rfl
      have t0 := pc hB T0.out rfl
      clear hB
      rcases Nat.eq_zero_or_pos s.size with hz | hz
      · obtain rfl := eq_nil s hz
        go_wp2
        go_ret3
        exact ⟨congrArg Ending.returned (look_no rfl), HB.out⟩
      · have hb : btn s 0 = 37 := by rcases HS.out with h | h <;> omega
        have hne := ne_mt s hz
        have e0 : ∀ h, ((s[0]'h).toNat : Int) = 37 := fun h => by rw [bt_get, hb]; rfl
        go_wp2
        refine still_tail 7 hmix (by kernel_rfl) ?_
        simp only [List.take_succ_cons, List.take_zero, List.drop_succ_cons, List.drop_zero]
        repeat still_step
        try refine wpStill_nil ?_
        go_wp2
        refine ⟨⟨rfl, rfl, rfl, rfl, HB.out.drew, .inr (.inl ⟨hz, hb, rfl, rfl, rfl⟩)⟩, by simp [intOf]⟩
    · have n0 := (N1.out.mod (Mod.ofBelow hB (fun _ => False)) (fun h => h))
      have c0 := n0.c0
      have c1 := n0.c1
      have c2 := n0.c2
      have c3 := n0.c3
      have c4 := n0.c4
      clear hB n0
      have hkz := Aside0.mk (cut_size s 1)
      have hkb := Aside0.mk (bt_cut s 1)
      generalize s.extract 1 s.size = k1 at *
      rcases Nat.eq_zero_or_pos k1.size with hz | hz
      · have hz1 := hkz.out
        obtain rfl := eq_nil k1 hz
        have hl : lk s = false := by unfold lk; rw [decide_eq_false]; omega
        clear hz hz1 hkz
        go_wp2
        go_ret3
        exact ⟨congrArg Ending.returned (look_no hl), HB.out⟩
      · have hne := ne_mt k1 hz
        have hpf := Aside0.mk (pre_two k1)
        by_cases hb1 : btn s 1 = 50
        · have hpt : Lib.hasPrefix k1.data.toList [50] = true := by rw [hpf.out, decide_eq_true]; exact ⟨hz, by rw [hkb.out]; exact hb1⟩
          have hex := Aside0.mk (cut_size k1 1)
          have hey := Aside0.mk (bt_cut k1 1 0)
          go_wp2_with (go_at_call 68; refine (Try.strings_HasPrefix k1 ⟨#[50]⟩ _).mono ?_; rintro e w' ⟨rfl, rfl⟩)
          have hz1 := hkz.out
          refine ⟨⟨rfl, rfl, rfl, rfl, HB.out, .inr (.inr (.inl ⟨by omega, h0, hb1, ⟨_, by rw [hex.out]; omega, by rw [hey.out, hkb.out], rfl⟩, rfl, rfl⟩))⟩, by simp [intOf]⟩
        · have hpt : Lib.hasPrefix k1.data.toList [50] = false := by rw [hpf.out, decide_eq_false]; rintro ⟨_, h⟩; exact hb1 (by rw [hkb.out] at h; exact h)
          go_wp2_with (go_at_call 68; refine (Try.strings_HasPrefix k1 ⟨#[50]⟩ _).mono ?_; rintro e w' ⟨rfl, rfl⟩)
          have hl : lk s = false := by unfold lk; rw [decide_eq_false]; omega
          go_ret3
          exact ⟨congrArg Ending.returned (look_no hl), HB.out⟩
    · have n0 := (N3.out.mod (Mod.ofBelow hB (fun _ => False)) (fun h => h))
      have c0 := n0.c0
      have c1 := n0.c1
      have c2 := n0.c2
      have c3 := n0.c3
      have c4 := n0.c4
      have g5 := pc hB G5.out rfl
      have u0 := pc hB U0.out rfl
      have u1 := pc hB U1.out rfl
      have u2 := pc hB U2.out rfl
      have u3 := pc hB U3.out rfl
      have gm : ∀ x, x < 256 → wr.cell? ⟨g, 6 + x, none⟩ = some (.int .u8 (fin_ x)) := fun x hx => pc hB (GM'.out x hx) rfl
      clear hB n0
      have Hk := Aside0.mk hk2
      clear hk2
      rcases Nat.eq_zero_or_pos k2.size with hz | hz
      · have hz1 := Hk.out
        obtain rfl := eq_nil k2 hz
        have hl : lk s = false := by unfold lk; rw [decide_eq_false]; omega
        clear hz hz1 Hk gm
        go_wp2
        go_ret3
        exact ⟨congrArg Ending.returned (look_no hl), HB.out⟩
      · have hne := ne_mt k2 hz
        have hlt := bt_lt k2 0
        have h3 : 3 ≤ s.size := by have := Hk.out; omega
        by_cases x1 : btn k2 0 = 101
        · have e0 : ∀ h, ((k2[0]'h).toNat : Int) = 101 := fun h => by rw [bt_get, x1]; rfl
          have gx : wr.cell? ⟨g, 107, none⟩ = some (.int .u8 3) := gm 101 (by omega)
          have hl : lk s = true := by unfold lk; rw [decide_eq_true]; omega
          clear gm
          go_wp2
          refine still_tail 7 hmix (by kernel_rfl) ?_
          simp only [List.take_succ_cons, List.take_zero, List.drop_succ_cons, List.drop_zero]
          repeat still_step
          try refine wpStill_nil ?_
          go_wp2
          refine ⟨⟨rfl, rfl, rfl, rfl, HB.out.drew, .inr (.inr (.inr (.inr ⟨hl, ⟨_, rfl⟩, rfl, m, 4, rfl, .inr rfl, NM.out⟩)))⟩, by simp [intOf]⟩
        · by_cases x2 : btn k2 0 = 69
          · have e0 : ∀ h, ((k2[0]'h).toNat : Int) = 69 := fun h => by rw [bt_get, x2]; rfl
            have gx : wr.cell? ⟨g, 75, none⟩ = some (.int .u8 2) := gm 69 (by omega)
            have hl : lk s = true := by unfold lk; rw [decide_eq_true]; omega
            clear gm
            go_wp2
            refine still_tail 7 hmix (by kernel_rfl) ?_
            simp only [List.take_succ_cons, List.take_zero, List.drop_succ_cons, List.drop_zero]
            repeat still_step
            try refine wpStill_nil ?_
            go_wp2
            refine ⟨⟨rfl, rfl, rfl, rfl, HB.out.drew, .inr (.inr (.inr (.inr ⟨hl, ⟨_, rfl⟩, rfl, k, 2, rfl, .inl rfl, NK.out⟩)))⟩, by simp [intOf]⟩
          · have hl : lk s = false := by unfold lk; rw [decide_eq_false]; omega
            by_cases x3 : btn k2 0 = 37
            · have e0 : ∀ h, ((k2[0]'h).toNat : Int) = 37 := fun h => by rw [bt_get, x3]; rfl
              have gx : wr.cell? ⟨g, 43, none⟩ = some (.int .u8 0) := gm 37 (by omega)
              clear gm
              go_wp2
              refine still_tail 7 hmix (by kernel_rfl) ?_
              simp only [List.take_succ_cons, List.take_zero, List.drop_succ_cons, List.drop_zero]
              repeat still_step
              try refine wpStill_nil ?_
              go_wp2
              refine ⟨⟨rfl, rfl, rfl, rfl, HB.out.drew, .inr (.inr (.inr (.inl ⟨hl, rfl, ⟨_, rfl⟩, .inr rfl⟩)))⟩, by simp [intOf]⟩
            · by_cases x4 : btn k2 0 = 50
              · have e0 : ∀ h, ((k2[0]'h).toNat : Int) = 50 := fun h => by rw [bt_get, x4]; rfl
                have gx : wr.cell? ⟨g, 56, none⟩ = some (.int .u8 1) := gm 50 (by omega)
                clear gm
                go_wp2
                refine still_tail 7 hmix (by kernel_rfl) ?_
                simp only [List.take_succ_cons, List.take_zero, List.drop_succ_cons, List.drop_zero]
                repeat still_step
                try refine wpStill_nil ?_
                go_wp2
                refine ⟨⟨rfl, rfl, rfl, rfl, HB.out.drew, .inr (.inr (.inr (.inl ⟨hl, rfl, ⟨_, rfl⟩, .inr rfl⟩)))⟩, by simp [intOf]⟩
              · have e0 : ∀ h, ((k2[0]'h).toNat : Int) = ((btn k2 0 : Nat) : Int) := fun h => by rw [bt_get]
                have gx : wr.cell? ⟨g, 6 + btn k2 0, none⟩ = some (.int .u8 4) := by
                  have := gm (btn k2 0) hlt
                  unfold fin_ at this
                  rw [if_neg x3, if_neg x4, if_neg x2, if_neg x1] at this
                  exact this
                clear gm hb2
                generalize btn k2 0 = y at *
                have b1 : decide (y < 256) = true := decide_eq_true hlt
                have b2 : (y : Int) < 256 := by omega
                go_wp2
                refine still_tail 7 hmix (by kernel_rfl) ?_
                simp only [List.take_succ_cons, List.take_zero, List.drop_succ_cons, List.drop_zero]
                repeat still_step
                try refine wpStill_nil ?_
                go_wp2
                go_ret3
                exact ⟨congrArg Ending.returned (look_no hl), HB.out.drew⟩
    · go_wp2
      go_ret3
      exact ⟨congrArg Ending.returned (look_no hl), HB.out⟩
    · have n0 := (hN.mod (Mod.ofBelow hB (fun _ => False)) (fun h => h))
      have c0 := n0.c0
      have c1 := n0.c1
      have c2 := n0.c2
      have c3 := n0.c3
      have c4 := n0.c4
      clear hB n0 hN
      rcases hp with rfl | rfl
      · go_wp2
        all_goals (go_ret3; exact ⟨congrArg Ending.returned (look_yes hl), HB.out⟩)
      · go_wp2
        all_goals (go_ret3; exact ⟨congrArg Ending.returned (look_yes hl), HB.out⟩)
end Go.Proofs.Ytedkaedeahobjaa
