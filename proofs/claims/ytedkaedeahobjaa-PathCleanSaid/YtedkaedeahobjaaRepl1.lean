/- (*strings.genericReplacer).WriteString, walked. -/
import Derived.Test.YtedkaedeahobjaaRepl
namespace Go.Proofs.Ytedkaedeahobjaa
open Go.RowKit Go.Proofs.YtedkaedeahobjaaW.PrintWords
set_option linter.unusedVariables false
set_option linter.unusedSimpArgs false

theorem len_ok {L o : List UInt8} {last i : Nat} {s : ByteArray} (h : Inv L o last i) (hL : L.length ≤ 1000000000) (hs : s.size ≤ 1000000000) : (Lib.byteCells o).length + (s.extract last i).size ≤ 140737488355328 := by
  have h1 := h.out; have h2 := h.top
  rw [ByteArray.size_extract]
  simp only [Lib.byteCells, List.length_map]
  omega
theorem len_ok' {L o : List UInt8} {last i : Nat} (x : ByteArray) (h : Inv L o last i) (hL : L.length ≤ 1000000000) (hs : x.size ≤ 1000000000) : (Lib.byteCells o).length + x.size ≤ 2000000000 := by
  have h1 := h.out; have h2 := h.top
  simp only [Lib.byteCells, List.length_map]
  omega
theorem nil_ahead (a : Addr) (w : World) : (nilAhead 252 137 (.pointer (some a)) "WriteString").run Try.prog w = .ok (some false) w := by kernel_rfl
theorem method_ws (a : Addr) (w : World) : (method 252 137 (.pointer (some a)) "WriteString").run Try.prog w = .ok (119, .pointer (some a)) w := by kernel_rfl
set_option maxHeartbeats 4000000 in
set_option maxRecDepth 100000 in
theorem ws_walk (B C g f : Nat) (s : ByteArray) (w0 w : World) (hG : GR w0 C g) (hB0 : B = w0.heap.size) (hB : Below B w0 w) (hf : Buf w B f []) (hs : s.size ≤ 1000000000) :
    Calls Try.prog 101 #[.pointer (some ⟨g, 0, none⟩), .iface 137 (.pointer (some ⟨f, 0, none⟩)), .string s] w fun e w' => (∃ v, e = .returned v) ∧ Buf w' B f (Lib.byteCells (rep s.data.toList)) ∧ Below B w0 w' := by
  have HG := Aside0.mk hG
  obtain ⟨M, T, n1, n3, T3, k, m, ⟨b1, b2, b3, b4, b5, b6, b7⟩, hg, hM, hT, hn1, hn3, hT3, hk, hm⟩ := hG
  have hmix : Try.prog.follows .mixedOrders = true := by kernel_rfl
  have G1 := Aside0.mk (cell_of w0 g 1 M hg hM.m1)
  have G4 := Aside0.mk (cell_of w0 g 4 M hg hM.m4)
  have G5 := Aside0.mk (cell_of w0 g 5 M hg hM.m5)
  have GM' : Aside0 (∀ x, x < 256 → w0.cell? ⟨g, 6 + x, none⟩ = some (.int .u8 (fin_ x))) := Aside0.mk (fun x hx => cell_of w0 g (6 + x) M hg (hM.map x hx))
  have T0 := Aside0.mk (show w0.cell? ⟨T, 0, none⟩ = some (.pointer (some ⟨n1, 0, none⟩)) by have := cell_of_row w0 T 0 _ _ _ hT; simpa using this)
  have T1 := Aside0.mk (show w0.cell? ⟨T, 1, none⟩ = some (.pointer none) by have := cell_of_row w0 T 1 _ _ _ hT; simpa using this)
  have T2 := Aside0.mk (show w0.cell? ⟨T, 2, none⟩ = some (.pointer none) by have := cell_of_row w0 T 2 _ _ _ hT; simpa using this)
  have T3' := Aside0.mk (show w0.cell? ⟨T, 3, none⟩ = some (.pointer none) by have := cell_of_row w0 T 3 _ _ _ hT; simpa using this)
  have HBF := Aside0.mk hf
  have HBW := Aside0.mk hB
  have HS := Aside0.mk hs
  have hBw : B ≤ w.heap.size := by rw [hB0]; exact hB.size
  clear hg hM hT hn1 hn3 hT3 hk hm hf hB
  obtain ⟨L, hL⟩ : ∃ L, L = s.data.toList := ⟨_, rfl⟩
  have HLs : L.length = s.size := by rw [hL]; rfl
  have HL := Aside0.mk hL
  clear hL
  have HB0 := Aside0.mk hB0
  clear hB0
  go_enter Try.func101, Try.ntmps101
  go_wp2_with (go_at_call 102; refine (get_writer (some ⟨f, 0, none⟩) _).mono ?_; rintro e w' ⟨rfl, rfl⟩)
  go_loopw [6, 7, 9, 10, 11, 12] (fun v6 v7 v9 v10 v11 v12 wr => ∃ (n k : Int) (last i : Nat) (o : List UInt8), v6 = .int .i64 n ∧ v7 = .nilIface ∧ v9 = .int .i64 (last : Int) ∧ v10 = .int .i64 k ∧ v11 = .bool false ∧ v12 = .int .i64 (i : Int) ∧ i ≤ s.size + 1 ∧ Below B w0 wr ∧ Buf wr B f (Lib.byteCells o) ∧ Inv L o last i)
    (fun _ _ _ _ _ v12 _ => s.size + 5 - (intOf v12).toNat)
  case atStart => exact ⟨0, 0, 0, 0, [], rfl, rfl, rfl, rfl, rfl, rfl, by omega, HBW.out, HBF.out, Inv.start L⟩
  case round =>
    obtain ⟨n, k, last, i, o, rfl, rfl, rfl, rfl, rfl, rfl, hi, hB, hf, hI⟩ := hrel
    have HB := Aside0.mk hB
    have HF := Aside0.mk hf
    have HI := Aside0.mk hI
    have g1 := pc hB G1.out HB0.out
    have g4 := pc hB G4.out HB0.out
    have g5 := pc hB G5.out HB0.out
    have t0 := pc hB T0.out HB0.out
    have t1 := pc hB T1.out HB0.out
    have t2 := pc hB T2.out HB0.out
    have t3 := pc hB T3'.out HB0.out
    have gm : ∀ x, x < 256 → wr.cell? ⟨g, 6 + x, none⟩ = some (.int .u8 (fin_ x)) := fun x hx => pc hB (GM'.out x hx) HB0.out
    clear hB hf hI
    rcases Nat.lt_trichotomy i s.size with hlt | rfl | hgt
    · have c1 : ((i : Int) ≤ (s.size : Int)) := by omega
      have c2 : ¬ ((i : Int) = (s.size : Int)) := by omega
      have c3 : ((i : Int) < (s.size : Int)) := by omega
      have c4 : i ≤ s.size := by omega
      have c5 : ¬ i = s.size := by omega
      have hlt' := bt_lt s i
      by_cases x0 : btn s i = 37
      · have hla : s.extract i s.size = ⟨⟨L.drop i⟩⟩ := by rw [cut_list, HL.out]
        have hcase : (s.extract i s.size).size = 0 ∨ (0 < (s.extract i s.size).size ∧ btn (s.extract i s.size) 0 = 37) := .inr ⟨by rw [cut_size]; omega, by rw [bt_cut]; exact x0⟩
        have HC := Aside0.mk hcase
        have HLA := Aside0.mk hla
        have e0 : ∀ h, ((s[i]'h).toNat : Int) = 37 := fun h => by rw [bt_get, x0]; rfl
        have gx : wr.cell? ⟨g, 43, none⟩ = some (.int .u8 0) := gm 37 (by omega)
        have HGW : Aside0 (GR wr.drew C g) := Aside0.mk (HG.out.mod (Mod.ofBelow (HB0.out ▸ HB.out.drew) (fun _ => False)) (fun _ _ h => h))
        clear gm hcase hla
        go_wp2
        refine still_tail 9 hmix (by kernel_rfl) ?_
        simp only [List.take_succ_cons, List.take_zero, List.drop_succ_cons, List.drop_zero]
        repeat still_step
        try refine wpStill_nil ?_
        by_cases hl : lk (s.extract i s.size) = true
        · go_wp2_with (go_at_call 103; refine (look_walk C g (s.extract i s.size) _ HGW.out HC.out).mono ?_; rintro e w1 ⟨he, hLB⟩; rw [← look_yes hl] at he; subst he)
          have HB1 : Aside0 (Below B w0 w1) := Aside0.mk (HB.out.drew.trans (hLB.mono (by rw [HB0.out]; exact HB.out.drew.size)))
          have HF1 : Aside0 (Buf w1.drew B f (Lib.byteCells o)) := Aside0.mk (show Buf w1 B f (Lib.byteCells o) from Buf.below (w := wr.drew) HF.out hLB)
          have hBw1 : B ≤ w1.drew.heap.size := by rw [HB0.out]; exact HB1.out.size
          have hlen : (Lib.byteCells o).length + (s.extract last i).size ≤ 140737488355328 := len_ok HI.out (by rw [HLs]; exact HS.out) HS.out
          clear hLB
          have c6 : last ≤ i := HI.out.le
          have c7 : (last : Int) ≤ (i : Int) := by omega
          have hna := nil_ahead
          have hme := method_ws
          go_region_with (go_at_call 119; refine (buf_write B f (Lib.byteCells o) (s.extract last i) w1.drew HF1.out hlen hBw1).mono ?_; rintro e w2 ⟨rfl, hF2, hB2⟩)
          have HF2 := Aside0.mk hF2
          have HB2 := Aside0.mk hB2
          have hBw2 : B ≤ w2.heap.size := Nat.le_trans hBw1 hB2.size
          have hlen2 : (Lib.byteCells o ++ Lib.strCells (s.extract last i)).length + (⟨#[46]⟩ : ByteArray).size ≤ 140737488355328 := by
            rw [List.length_append, Lib.strCells_length]
            have := len_ok' (s.extract last i) HI.out (by rw [HLs]; exact HS.out) (by rw [ByteArray.size_extract]; have := HS.out; omega)
            show _ + 1 ≤ _
            omega
          clear hF2 hB2
          go_wp2_with (go_at_call 119; refine (buf_write B f (Lib.byteCells o ++ Lib.strCells (s.extract last i)) (⟨#[46]⟩ : ByteArray) w2 HF2.out hlen2 hBw2).mono ?_; rintro e w3 ⟨rfl, hF3, hB3⟩)
          obtain ⟨hI3, h3⟩ := HI.out.hit (by rw [← HLA.out]; exact hl)
          have HB3 := Aside0.mk ((HB1.out.drew.trans HB2.out).trans hB3)
          have HF3 : Aside0 (Buf w3 B f (Lib.byteCells (o ++ (L.take i).drop last ++ [46]))) := Aside0.mk (by
            rw [mid_list, ← HL.out] at hF3
            rw [Lib.byteCells_append, Lib.byteCells_append]
            exact hF3)
          exact ⟨⟨_, _, i + 3, i + 3, _, rfl, rfl, by simp, rfl, rfl, by simp, by omega, HB3.out, HF3.out, hI3⟩, by simp [intOf]; omega⟩
        · have hl' := Bool.eq_false_iff.2 hl
          go_wp2_with (go_at_call 103; refine (look_walk C g (s.extract i s.size) _ HGW.out HC.out).mono ?_; rintro e w1 ⟨he, hLB⟩; rw [← look_no hl'] at he; subst he)
          have HB1 : Aside0 (Below B w0 w1) := Aside0.mk (HB.out.drew.trans (hLB.mono (by rw [HB0.out]; exact HB.out.drew.size)))
          have HF1 : Aside0 (Buf w1 B f (Lib.byteCells o)) := Aside0.mk (Buf.below (w := wr.drew) HF.out hLB)
          exact ⟨⟨n, k, last, i + 1, o, rfl, rfl, rfl, rfl, rfl, by simp, by omega, HB1.out, HF1.out, HI.out.skip (fun x t h => rep_no x t (by rw [← h, ← HLA.out]; exact hl'))⟩, by simp [intOf]; omega⟩
      · have hskip := Aside0.mk (show ∀ x t, L.drop i = x :: t → rep (x :: t) = x :: rep t from fun x t h => rep_other x t (fun hx => x0 (by rw [HL.out] at h; rw [← head_bt s i x t h, hx]; rfl)))
        by_cases x1 : btn s i = 101
        · clear x0
          have e0 : ∀ h, ((s[i]'h).toNat : Int) = 101 := fun h => by rw [bt_get, x1]; rfl
          have gx : wr.cell? ⟨g, 107, none⟩ = some (.int .u8 3) := gm 101 (by omega)
          clear gm
          go_wp2
          refine still_tail 9 hmix (by kernel_rfl) ?_
          simp only [List.take_succ_cons, List.take_zero, List.drop_succ_cons, List.drop_zero]
          repeat still_step
          try refine wpStill_nil ?_
          go_wp2
          exact ⟨⟨n, k, last, i + 1, o, rfl, rfl, rfl, rfl, rfl, by simp, by omega, HB.out.drew, HF.out, HI.out.skip hskip.out⟩, by simp [intOf]; omega⟩
        · have y1 := x1
          clear x1
          by_cases x1 : btn s i = 69
          · clear x0 y1
            have e0 : ∀ h, ((s[i]'h).toNat : Int) = 69 := fun h => by rw [bt_get, x1]; rfl
            have gx : wr.cell? ⟨g, 75, none⟩ = some (.int .u8 2) := gm 69 (by omega)
            clear gm
            go_wp2
            refine still_tail 9 hmix (by kernel_rfl) ?_
            simp only [List.take_succ_cons, List.take_zero, List.drop_succ_cons, List.drop_zero]
            repeat still_step
            try refine wpStill_nil ?_
            go_wp2
            exact ⟨⟨n, k, last, i + 1, o, rfl, rfl, rfl, rfl, rfl, by simp, by omega, HB.out.drew, HF.out, HI.out.skip hskip.out⟩, by simp [intOf]; omega⟩
          · have y2 := x1
            clear x1
            by_cases x1 : btn s i = 50
            · clear x0 y1 y2
              have e0 : ∀ h, ((s[i]'h).toNat : Int) = 50 := fun h => by rw [bt_get, x1]; rfl
              have gx : wr.cell? ⟨g, 56, none⟩ = some (.int .u8 1) := gm 50 (by omega)
              clear gm
              go_wp2
              refine still_tail 9 hmix (by kernel_rfl) ?_
              simp only [List.take_succ_cons, List.take_zero, List.drop_succ_cons, List.drop_zero]
              repeat still_step
              try refine wpStill_nil ?_
              go_wp2
              exact ⟨⟨n, k, last, i + 1, o, rfl, rfl, rfl, rfl, rfl, by simp, by omega, HB.out.drew, HF.out, HI.out.skip hskip.out⟩, by simp [intOf]; omega⟩
            · have e0 : ∀ h, ((s[i]'h).toNat : Int) = ((btn s i : Nat) : Int) := fun h => by rw [bt_get]
              have gx : wr.cell? ⟨g, 6 + btn s i, none⟩ = some (.int .u8 4) := by
                have := gm (btn s i) hlt'
                unfold fin_ at this
                rw [if_neg x0, if_neg x1, if_neg y2, if_neg y1] at this
                exact this
              clear gm
              generalize btn s i = y at *
              have b2 : (y : Int) < 256 := by omega
              go_wp2
              refine still_tail 9 hmix (by kernel_rfl) ?_
              simp only [List.take_succ_cons, List.take_zero, List.drop_succ_cons, List.drop_zero]
              repeat still_step
              try refine wpStill_nil ?_
              go_wp2
              exact ⟨⟨n, k, last, i + 1, o, rfl, rfl, rfl, rfl, rfl, by simp, by omega, HB.out.drew, HF.out, HI.out.skip hskip.out⟩, by simp [intOf]; omega⟩
    · have HC : Aside0 (ByteArray.empty.size = 0 ∨ (0 < ByteArray.empty.size ∧ btn ByteArray.empty 0 = 37)) := Aside0.mk (.inl rfl)
      have HGW : Aside0 (GR wr C g) := Aside0.mk (HG.out.mod (Mod.ofBelow (HB0.out ▸ HB.out) (fun _ => False)) (fun _ _ h => h))
      have hl' : lk ByteArray.empty = false := rfl
      clear gm
      go_wp2_with (go_at_call 103; refine (look_walk C g ByteArray.empty _ HGW.out HC.out).mono ?_; rintro e w1 ⟨he, hLB⟩; rw [← look_no hl'] at he; subst he)
      have HB1 : Aside0 (Below B w0 w1) := Aside0.mk (HB.out.trans (hLB.mono (by rw [HB0.out]; exact HB.out.size)))
      have HF1 : Aside0 (Buf w1 B f (Lib.byteCells o)) := Aside0.mk (Buf.below (w := wr) HF.out hLB)
      exact ⟨⟨n, k, last, s.size + 1, o, rfl, rfl, rfl, rfl, rfl, by simp, by omega, HB1.out, HF1.out, HI.out.skip (fun x t h => absurd (congrArg List.length h) (by rw [List.drop_of_length_le (Nat.le_of_eq HLs)]; simp))⟩, by simp [intOf]⟩
    · have c1 : ¬ ((i : Int) ≤ (s.size : Int)) := by omega
      have c4 : ¬ i ≤ s.size := by omega
      clear gm
      have hd := HI.out.done (by omega)
      have htop := HI.out.top
      rcases Nat.lt_or_ge last s.size with hls | hls
      · have c2 : ¬ ((last : Int) = (s.size : Int)) := by omega
        have c3 : ¬ last = s.size := by omega
        have c5 : last ≤ s.size := by omega
        have c6 : (last : Int) ≤ (s.size : Int) := by omega
        have hna := nil_ahead
        have hme := method_ws
        have HFd : Aside0 (Buf wr.drew B f (Lib.byteCells o)) := Aside0.mk HF.out
        have hBw1 : B ≤ wr.drew.heap.size := by rw [HB0.out]; exact HB.out.size
        have hlen : (Lib.byteCells o).length + (s.extract last s.size).size ≤ 140737488355328 := Nat.le_trans (len_ok' _ HI.out (by rw [HLs]; exact HS.out) (by rw [cut_size]; have := HS.out; omega)) (by decide)
        go_wp2
        go_region_with (go_at_call 119; refine (buf_write B f (Lib.byteCells o) (s.extract last s.size) wr.drew HFd.out hlen hBw1).mono ?_; rintro e w2 ⟨rfl, hF2, hB2⟩)
        have HF2 : Aside0 (Buf w2 B f (Lib.byteCells (rep s.data.toList))) := Aside0.mk (by
          rw [mid_list, ← Lib.byteCells_append] at hF2
          have e1 : s.data.toList.take s.size = s.data.toList := List.take_of_length_le (Nat.le_of_eq (by rw [← HL.out]; exact HLs))
          rw [e1, ← HL.out, hd] at hF2
          rw [← HL.out]; exact hF2)
        have HB2 := Aside0.mk (HB.out.drew.trans hB2)
        clear hF2 hB2
        go_wp2
        go_ret2
        exact ⟨⟨_, rfl⟩, HF2.out, HB2.out⟩
      · have c2 : ((last : Int) = (s.size : Int)) := by omega
        have c3 : last = s.size := by omega
        have HF2 : Aside0 (Buf wr B f (Lib.byteCells (rep s.data.toList))) := Aside0.mk (by
          rw [← HL.out, ← hd, List.drop_of_length_le (by omega), List.append_nil]
          exact HF.out)
        subst c3
        go_wp2
        go_ret2
        exact ⟨⟨_, rfl⟩, HF2.out, HB.out⟩
end Go.Proofs.Ytedkaedeahobjaa
