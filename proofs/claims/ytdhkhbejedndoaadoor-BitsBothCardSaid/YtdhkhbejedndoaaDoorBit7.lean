/- both: walked. -/
import Derived.Test.YtdhkhbejedndoaaDoorBit6
namespace Go.Proofs.YtdhkhbejedndoaaDoor.H
open Go.RowKit Go.Proofs.YtdhkhbejedndoaaDoor.P Go.Proofs.YtdhkhbejedndoaaDoorW.PrintWords Go.Proofs.YtdhkhbejedndoaaDoorW.PrintLast Go.Proofs.YtdhkhbejedndoaaDoorW.PrintMore
set_option linter.unusedVariables false
set_option linter.unusedSimpArgs false
theorem cfar {W : World} {a p : Addr} {u : Value} (hc : W.cell? a = some u) (hne : a.block ≠ p.block) (v : Value) : (W.setCell p v).cell? a = some u := by
  rw [World.cell?_of_block (w := W) (Below.heap_setCell W p v a.block hne)]
  exact hc
theorem set_word {w W : World} {P : Option Addr} {m : List Bool} (h : SetAt w P m) (hb : Below w.heap.size w W) (j : Nat) (hj : j < (m.length + 63) / 64) :
    ∃ g a c, P = some ⟨g, 0, none⟩ ∧ g < w.heap.size ∧ W.cell? ⟨g, 1, none⟩ = some (.slice (some a) (wordsOf m).length c) ∧ W.cell? (a.add j) = some (.int .u64 ((wordN m j : Nat) : Int)) ∧ (a.add j).block < w.heap.size := by
  rcases h with ⟨_, rfl⟩ | ⟨g, A, c, rfl, hg, hc, hC⟩
  · simp at hj
  · obtain ⟨a, rfl, hx⟩ := Kd.at_int hC (j : Int) (by omega) (by rw [wordsOf_len]; omega)
    rw [wordsOf_at m j hj, Int.toNat_natCast] at hx
    exact ⟨g, a, c, rfl, blk_lt hg, blk_cell (blk_below hg hb) 1, cb hx hb, World.block_lt_of_cell? w _ hx⟩
set_option maxRecDepth 20000 in
set_option maxHeartbeats 4000000 in
theorem both_and (m1 m2 : List Bool) (P1 P2 : Option Addr) (w : World) (h1 : SetAt w P1 m1) (h2 : SetAt w P2 m2) (hm1 : m1.length ≤ 1024) :
    Calls Tryd.prog 29 #[.pointer P1, .pointer P2, .func (.func 32) #[] #[]] w fun e w' => OfAt (if m2.length = m1.length then some (bothM (· && ·) m1 m2) else none) w e w' := by
  have hs1 := size_any P1 m1 w h1
  have hs2 := size_any P2 m2 w h2
  have hcp := copied_any P1 m1 w h1 hm1
  have HH1 := Aside0.mk h1
  have HH2 := Aside0.mk h2
  have HOP := Aside0.mk (fun hl j => word_and m1 m2 hl j)
  have HDO := Aside0.mk and_any
  have HM1 := Aside0.mk hm1
  generalize hrr : (if m2.length = m1.length then some (bothM (· && ·) m1 m2) else none) = r at *
  have HRR := Aside0.mk hrr
  clear hrr h1 h2
  by_cases hl : m2.length = m1.length
  · have HE := Aside0.mk (show r = some (bothM (· && ·) m1 m2) from by rw [← HRR.out, if_pos hl])
    have HLL := Aside0.mk hl
    rw [hl] at hs2
    generalize ((m1.length : Nat) : Int) = n at hs1 hs2
    clear hl hm1
    go_enter Tryd.func29, Tryd.ntmps29
    go_wp2_with fail
    refine hs1.mono ?_
    rintro e w1 ⟨rfl, rfl⟩
    go_wp2_with fail
    refine hs2.mono ?_
    rintro e w2 ⟨rfl, rfl⟩
    clear hs1 hs2
    go_wp2_with fail
    refine hcp.mono ?_
    rintro e w3 ⟨⟨g, rfl, hg0⟩, hb⟩
    have HB := Aside0.mk hb
    obtain ⟨v, hg, hbg, hR⟩ := hg0
    obtain ⟨Av, cv, rfl⟩ := Kd.R_slice hR
    have hnwl : (wordsOf m1).length = (m1.length + 63) / 64 := wordsOf_len m1
    have HML := Aside0.mk (show (bothM (· && ·) m1 m2).length = m1.length from bothM_len _ _ _)
    generalize hnw : (wordsOf m1).length = nw at *
    have HNW := Aside0.mk hnwl
    have HR := Aside0.mk hR
    rw [← mixW_zero (bothM (· && ·) m1 m2) m1] at HR
    have HG := Aside0.mk hg
    have HBG := Aside0.mk hbg
    have HNWL := Aside0.mk hnw
    have hn16 : nw ≤ 100 := by have := HM1.out; omega
    have c0 := blk_cell hg 1
    clear hg hR hbg hb hcp hnw hnwl
    go_wp2_with fail
    go_loopw [22, 9] (fun s22 s9 wr => ∃ j : Nat, s22 = .int .i64 j ∧ j ≤ nw ∧ Aside0 (Kd.R (Kd.int .u64) 51 wr w2.heap.size (fun _ => True) (.slice Av nw cv) (mixW (bothM (· && ·) m1 m2) m1 j)) ∧ Aside0 (wr.heap[g]? = some (.cells #[.int .i64 (m1.length : Nat), .slice Av nw cv] 54 (0, 0))) ∧ Aside0 (Below w2.heap.size w2 wr)) (fun s _ _ => nw - (intOf s).toNat)
    case atStart => exact ⟨0, rfl, Nat.zero_le _, HR, HG, HB⟩
    case round =>
      clear HR HG HB c0
      obtain ⟨j, rfl, hj, HX, HGG, HBW⟩ := hrel
      by_cases h1 : j < nw
      · have h1' : (j : Int) < (nw : Int) := by omega
        have HJ := Aside0.mk (show j < (m1.length + 63) / 64 from by rw [← HNW.out]; exact h1)
        obtain ⟨inner, hown⟩ := Kd.R_own HX.out
        obtain ⟨b, rfl⟩ : ∃ b, Av = some ⟨b, 0, none⟩ := by
          rcases hown.2 with ⟨e', _⟩ | ⟨b, cap, cur, e', _⟩
          · simp only [Value.slice.injEq] at e'
            omega
          · simp only [Value.slice.injEq] at e'
            exact ⟨b, e'.1⟩
        have hbb : w2.heap.size ≤ b := own_base hown b rfl
        obtain ⟨cs, hcs⟩ := own_typed hown b rfl
        have hgb : g ≠ b := blk_ne HGG.out hcs (by decide)
        have hmix : (mixW (bothM (· && ·) m1 m2) m1 j).length = nw := by rw [mixW_len, HNW.out]
        have HPUT := Aside0.mk (fun W (hW : Kd.R (Kd.int .u64) 51 W w2.heap.size (fun _ => True) (.slice (some ⟨b, 0, none⟩) nw cv) (mixW (bothM (· && ·) m1 m2) m1 j)) => by
          rw [← hmix] at hW
          have h9 := (Kd.R_put hW (j : Int) ((wordN (bothM (· && ·) m1 m2) j : Nat) : Int)).1
          rw [Int.toNat_natCast, mixW_next _ _ _ HJ.out, hmix] at h9
          exact h9)
        have hbc : wr.cell? ⟨b, j, none⟩ = some (.int .u64 (rdOf 0 (mixW (bothM (· && ·) m1 m2) m1 j) (j : Int))) ∧ wr.frozen? ⟨b, j, none⟩ = false := by
          have hX := HX.out
          rw [← hmix] at hX
          have := Kd.R_cell (d := (0 : Int)) hX (j : Int) (by omega) (by omega)
          rwa [Int.toNat_natCast] at this
        obtain ⟨g1, a1, c1, rfl, e1, x1, y1, z1⟩ := set_word HH1.out HBW.out j HJ.out
        obtain ⟨g2, a2, c2, rfl, e2, x2, y2, z2⟩ := set_word HH2.out HBW.out j (by rw [HLL.out]; exact HJ.out)
        have hl1 : (wordsOf m1).length = nw := HNWL.out
        have hl2 : (wordsOf m2).length = nw := by rw [wordsOf_len, HLL.out, HNW.out]
        rw [hl1] at x1
        rw [hl2] at x2
        have c0 := blk_cell HGG.out 1
        have hcell : wr.cell? ⟨g, 1, none⟩ = some (.slice (some ⟨b, 0, none⟩) nw cv) ∧ wr.cell? ⟨g1, 1, none⟩ = some (.slice (some a1) nw c1) ∧ wr.cell? (a1.add j) = some (.int .u64 ((wordN m1 j : Nat) : Int)) ∧ wr.cell? ⟨g2, 1, none⟩ = some (.slice (some a2) nw c2) ∧ wr.cell? (a2.add j) = some (.int .u64 ((wordN m2 j : Nat) : Int)) := ⟨c0, x1, y1, x2, y2⟩
        have HNE := Aside0.mk (show g ≠ b ∧ g1 ≠ b ∧ (a1.add j).block ≠ b ∧ g2 ≠ b ∧ (a2.add j).block ≠ b from ⟨hgb, by omega, by omega, by omega, by omega⟩)
        have HBB := Aside0.mk hbb
        have HCALL := Aside0.mk (show ∀ W, Calls Tryd.prog 32 #[.int .u64 ((wordN m1 j : Nat) : Int), .int .u64 ((wordN m2 j : Nat) : Int)] W fun e w' => e = .returned (.int .u64 ((wordN (bothM (· && ·) m1 m2) j : Nat) : Int)) ∧ w' = W from fun W => by
          have h9 := HDO.out ((wordN m1 j : Nat) : Int) ((wordN m2 j : Nat) : Int) W
          rwa [HOP.out HLL.out j] at h9)
        obtain ⟨b1, b2⟩ := hbc
        clear hown hcs hbb hgb c0 x1 y1 z1 x2 y2 z2 e1 e2 hl1 hl2 h1 hmix
        generalize rdOf 0 (mixW (bothM (· && ·) m1 m2) m1 j) (j : Int) = old at *
        generalize ((wordN (bothM (· && ·) m1 m2) j : Nat) : Int) = nwv at *
        go_wp2_with fail
        refine wp_region_held_drew (S := (fun w' => w'.cell? ⟨g, 1, none⟩ = some (.slice (some ⟨b, 0, none⟩) nw cv) ∧ w'.cell? ⟨g1, 1, none⟩ = some (.slice (some a1) nw c1) ∧ w'.cell? (a1.add j) = some (.int .u64 ((wordN m1 j : Nat) : Int)) ∧ w'.cell? ⟨g2, 1, none⟩ = some (.slice (some a2) nw c2) ∧ w'.cell? (a2.add j) = some (.int .u64 ((wordN m2 j : Nat) : Int)))) (by kernel_rfl) ?hSa0 (fun hHeld => ?_)
        case hSa0 => first | assumption | exact ⟨cfar hcell.1 HNE.out.1 _, cfar hcell.2.1 HNE.out.2.1 _, cfar hcell.2.2.1 HNE.out.2.2.1 _, cfar hcell.2.2.2.1 HNE.out.2.2.2.1 _, cfar hcell.2.2.2.2 HNE.out.2.2.2.2 _⟩ | go_keep
        refine held_take 0 (some 25) (v := ?va0) rfl rfl (by kernel_rfl) (by kernel_rfl) (by kernel_rfl) (fun _ _ _ h => h) (by rfl) ?ya0 (by assumption) ?_
        case ya0 => ((intro w hSw); (try dsimp only at hSw); go_simp <;> (with_reducible rfl))
        try simp only [Act.put, List.setIfInBounds_toArray, List.set_cons_zero, List.set_cons_succ]
        refine held_take 1 (some 26) (v := ?va1) rfl rfl (by kernel_rfl) (by kernel_rfl) (by kernel_rfl) (fun _ _ _ h => h) (by rfl) ?ya1 (by assumption) ?_
        case ya1 => ((intro w hSw); (try dsimp only at hSw); go_simp <;> (with_reducible rfl))
        try simp only [Act.put, List.setIfInBounds_toArray, List.set_cons_zero, List.set_cons_succ]
        refine held_take 2 (some 27) (v := ?va2) rfl rfl (by kernel_rfl) (by kernel_rfl) (by kernel_rfl) (fun _ _ _ h => h) (by rfl) ?ya2 (by assumption) ?_
        case ya2 => ((intro w hSw); (try dsimp only at hSw); go_simp <;> (with_reducible rfl))
        try simp only [Act.put, List.setIfInBounds_toArray, List.set_cons_zero, List.set_cons_succ]
        refine held_take 3 (some 28) (v := ?va3) rfl rfl (by kernel_rfl) (by kernel_rfl) (by kernel_rfl) (fun _ _ _ h => h) (by rfl) ?ya3 (by assumption) ?_
        case ya3 => ((intro w hSw); (try dsimp only at hSw); go_simp <;> (with_reducible rfl))
        try simp only [Act.put, List.setIfInBounds_toArray, List.set_cons_zero, List.set_cons_succ]
        refine held_take 4 (some 29) (v := ?va4) rfl rfl (by kernel_rfl) (by kernel_rfl) (by kernel_rfl) (fun _ _ _ h => h) (by rfl) ?ya4 (by assumption) ?_
        case ya4 => ((intro w hSw); (try dsimp only at hSw); go_simp <;> (with_reducible rfl))
        try simp only [Act.put, List.setIfInBounds_toArray, List.set_cons_zero, List.set_cons_succ]
        refine held_take 5 (some 30) (v := ?va5) rfl rfl (by kernel_rfl) (by kernel_rfl) (by kernel_rfl) (fun _ _ _ h => h) (by rfl) ?ya5 (by assumption) ?_
        case ya5 => ((intro w hSw); (try dsimp only at hSw); go_simp <;> (with_reducible rfl))
        try simp only [Act.put, List.setIfInBounds_toArray, List.set_cons_zero, List.set_cons_succ]
        refine held_take 6 (some 31) (v := ?va6) rfl rfl (by kernel_rfl) (by kernel_rfl) (by kernel_rfl) (fun _ _ _ h => h) (by rfl) ?ya6 (by assumption) ?_
        case ya6 => ((intro w hSw); (try dsimp only at hSw); go_simp <;> (with_reducible rfl))
        try simp only [Act.put, List.setIfInBounds_toArray, List.set_cons_zero, List.set_cons_succ]
        refine held_take 7 (some 32) (v := ?va7) rfl rfl (by kernel_rfl) (by kernel_rfl) (by kernel_rfl) (fun _ _ _ h => h) (by rfl) ?ya7 (by assumption) ?_
        case ya7 => ((intro w hSw); (try dsimp only at hSw); go_simp <;> (with_reducible rfl))
        try simp only [Act.put, List.setIfInBounds_toArray, List.set_cons_zero, List.set_cons_succ]
        refine held_take 8 (some 33) (v := ?va8) rfl rfl (by kernel_rfl) (by kernel_rfl) (by kernel_rfl) (fun _ _ _ h => h) (by rfl) ?ya8 (by assumption) ?_
        case ya8 => ((intro w hSw); (try dsimp only at hSw); go_simp <;> (with_reducible rfl))
        try simp only [Act.put, List.setIfInBounds_toArray, List.set_cons_zero, List.set_cons_succ]
        refine held_take 9 (some 34) (v := ?va9) rfl rfl (by kernel_rfl) (by kernel_rfl) (by kernel_rfl) (fun _ _ _ h => h) (by rfl) ?ya9 (by assumption) ?_
        case ya9 => ((intro w hSw); (try dsimp only at hSw); go_simp <;> (with_reducible rfl))
        try simp only [Act.put, List.setIfInBounds_toArray, List.set_cons_zero, List.set_cons_succ]
        refine held_take 10 (some 35) (v := ?va10) rfl rfl (by kernel_rfl) (by kernel_rfl) (by kernel_rfl) (fun _ _ _ h => h) (by rfl) ?ya10 (by assumption) ?_
        case ya10 => ((intro w hSw); (try dsimp only at hSw); go_simp <;> (with_reducible rfl))
        try simp only [Act.put, List.setIfInBounds_toArray, List.set_cons_zero, List.set_cons_succ]
        refine held_take 11 (some 36) (v := ?va11) rfl rfl (by kernel_rfl) (by kernel_rfl) (by kernel_rfl) (fun _ _ _ h => h) (by rfl) ?ya11 (by assumption) ?_
        case ya11 => ((intro w hSw); (try dsimp only at hSw); go_simp <;> (with_reducible rfl))
        try simp only [Act.put, List.setIfInBounds_toArray, List.set_cons_zero, List.set_cons_succ]
        refine held_take 12 (some 37) (v := ?va12) rfl rfl (by kernel_rfl) (by kernel_rfl) (by kernel_rfl) (fun _ _ _ h => h) (by rfl) ?ya12 (by assumption) ?_
        case ya12 => ((intro w hSw); (try dsimp only at hSw); go_simp <;> (with_reducible rfl))
        try simp only [Act.put, List.setIfInBounds_toArray, List.set_cons_zero, List.set_cons_succ]
        refine held_take 13 (some 38) (v := ?va13) rfl rfl (by kernel_rfl) (by kernel_rfl) (by kernel_rfl) (fun _ _ _ h => h) (by rfl) ?ya13 (by assumption) ?_
        case ya13 => ((intro w hSw); (try dsimp only at hSw); go_simp <;> (with_reducible rfl))
        try simp only [Act.put, List.setIfInBounds_toArray, List.set_cons_zero, List.set_cons_succ]
        refine held_take 14 (some 39) (v := ?va14) rfl rfl (by kernel_rfl) (by kernel_rfl) (by kernel_rfl) (fun _ _ _ h => h) (by rfl) ?ya14 (by assumption) ?_
        case ya14 => ((intro w hSw); (try dsimp only at hSw); go_simp <;> (with_reducible rfl))
        try simp only [Act.put, List.setIfInBounds_toArray, List.set_cons_zero, List.set_cons_succ]
        refine held_take 15 (some 40) (v := ?va15) rfl rfl (by kernel_rfl) (by kernel_rfl) (by kernel_rfl) (fun _ _ _ h => h) (by rfl) ?ya15 (by assumption) ?_
        case ya15 => ((intro w hSw); (try dsimp only at hSw); go_simp <;> (with_reducible rfl))
        try simp only [Act.put, List.setIfInBounds_toArray, List.set_cons_zero, List.set_cons_succ]
        refine held_take 16 (some 41) (v := ?va16) rfl rfl (by kernel_rfl) (by kernel_rfl) (by kernel_rfl) (fun _ _ _ h => h) (by rfl) ?ya16 (by assumption) ?_
        case ya16 => ((intro w hSw); (try dsimp only at hSw); go_simp <;> (with_reducible rfl))
        try simp only [Act.put, List.setIfInBounds_toArray, List.set_cons_zero, List.set_cons_succ]
        refine held_take 17 (some 42) (v := ?va17) rfl rfl (by kernel_rfl) (by kernel_rfl) (by kernel_rfl) (fun _ _ _ h => h) (by rfl) ?ya17 (by assumption) ?_
        case ya17 => ((intro w hSw); (try dsimp only at hSw); go_simp <;> (with_reducible rfl))
        try simp only [Act.put, List.setIfInBounds_toArray, List.set_cons_zero, List.set_cons_succ]
        refine held_take 18 (some 43) (v := ?va18) rfl rfl (by kernel_rfl) (by kernel_rfl) (by kernel_rfl) (fun _ _ _ h => h) (by rfl) ?ya18 (by assumption) ?_
        case ya18 => ((intro w hSw); (try dsimp only at hSw); go_simp <;> (with_reducible rfl))
        try simp only [Act.put, List.setIfInBounds_toArray, List.set_cons_zero, List.set_cons_succ]
        refine held_take 19 (some 44) (v := ?va19) rfl rfl (by kernel_rfl) (by kernel_rfl) (by kernel_rfl) (fun _ _ _ h => h) (by rfl) ?ya19 (by assumption) ?_
        case ya19 => ((intro w hSw); (try dsimp only at hSw); go_simp <;> (with_reducible rfl))
        try simp only [Act.put, List.setIfInBounds_toArray, List.set_cons_zero, List.set_cons_succ]
        refine wpAnyH_ready (rs := [20]) (by kernel_rfl) (by simp) ?_
        refine AllReadyH.cons rfl (fun K hK => ?_) AllReadyH.nil
        go_simp
        refine (HCALL.out _).mono ?_
        rintro e w5 ⟨rfl, rfl⟩
        refine hK.out _ _ ?hSa21 (fun hHeld => ?_)
        case hSa21 => first | assumption | exact ⟨cfar hcell.1 HNE.out.1 _, cfar hcell.2.1 HNE.out.2.1 _, cfar hcell.2.2.1 HNE.out.2.2.1 _, cfar hcell.2.2.2.1 HNE.out.2.2.2.1 _, cfar hcell.2.2.2.2 HNE.out.2.2.2.2 _⟩ | go_keep
        clear hK K
        try simp only [Act.put, List.setIfInBounds_toArray, List.set_cons_zero, List.set_cons_succ]
        refine held_take 21 (some 46) (v := ?va21) rfl rfl (by kernel_rfl) (by kernel_rfl) (by kernel_rfl) (fun _ _ _ h => h) (by rfl) ?ya21 (by assumption) ?_
        case ya21 => ((intro w hSw); (try dsimp only at hSw); go_simp <;> (with_reducible rfl))
        try simp only [Act.put, List.setIfInBounds_toArray, List.set_cons_zero, List.set_cons_succ]
        refine wpAnyH_ready (rs := [22]) (by kernel_rfl) (by simp) ?_
        refine AllReadyH.cons rfl (fun K hK => ?_) AllReadyH.nil
        go_simp
        refine hK.out _ _ ?hSa23 (fun hHeld => ?_)
        case hSa23 => first | assumption | exact ⟨cfar hcell.1 HNE.out.1 _, cfar hcell.2.1 HNE.out.2.1 _, cfar hcell.2.2.1 HNE.out.2.2.1 _, cfar hcell.2.2.2.1 HNE.out.2.2.2.1 _, cfar hcell.2.2.2.2 HNE.out.2.2.2.2 _⟩ | go_keep
        clear hK K
        try simp only [Act.put, List.setIfInBounds_toArray, List.set_cons_zero, List.set_cons_succ]
        refine wpAnyH_done (by kernel_rfl) ?_ _
        have HX2 := Aside0.mk (Kd.R_drew (HPUT.out wr HX.out))
        have HG2 := Aside0.mk (blk_drew (blk_far HGG.out (p := ⟨b, j, none⟩) HNE.out.1 (.int .u64 nwv)))
        have HB2 := Aside0.mk (below_drew (HBW.out.setCell (p := ⟨b, j, none⟩) HBB.out (.int .u64 nwv)))
        clear b1 b2 hcell
        go_wp2_with fail
        go_roundw
        case rel => exact ⟨j + 1, by go_num, by omega, HX2, HG2, HB2⟩
        case measure => simp [intOf]; omega
      · have h1' : ¬ (j : Int) < (nw : Int) := by omega
        have HJE := Aside0.mk (show j = (m1.length + 63) / 64 from by rw [← HNW.out]; omega)
        go_wp2_with fail
        go_ret2
        have h9 := HX.out
        rw [HJE.out, mixW_end _ _ HML.out] at h9
        exact ⟨.inr ⟨_, g, HE.out, rfl, .slice Av nw cv, by rw [HML.out]; exact HGG.out, HBG.out, h9⟩, HBW.out⟩
  · have HE := Aside0.mk (show r = none from by rw [← HRR.out, if_neg hl])
    have hne : (((m1.length : Nat) : Int) != ((m2.length : Nat) : Int)) = true := by rw [bne_iff_ne]; omega
    have hne2 : (((m1.length : Nat) : Int) == ((m2.length : Nat) : Int)) = false := by rw [beq_eq_false_iff_ne]; omega
    generalize ((m1.length : Nat) : Int) = n1 at *
    generalize ((m2.length : Nat) : Int) = n2 at *
    clear hl hm1 hcp
    go_enter Tryd.func29, Tryd.ntmps29
    go_wp2_with fail
    refine hs1.mono ?_
    rintro e w1 ⟨rfl, rfl⟩
    go_wp2_with fail
    refine hs2.mono ?_
    rintro e w2 ⟨rfl, rfl⟩
    go_wp2_with fail
    go_ret2
    exact ⟨.inl ⟨HE.out, rfl⟩, Below.refl _ _⟩
set_option maxRecDepth 20000 in
set_option maxHeartbeats 4000000 in
theorem both_or (m1 m2 : List Bool) (P1 P2 : Option Addr) (w : World) (h1 : SetAt w P1 m1) (h2 : SetAt w P2 m2) (hm1 : m1.length ≤ 1024) :
    Calls Tryd.prog 29 #[.pointer P1, .pointer P2, .func (.func 30) #[] #[]] w fun e w' => OfAt (if m2.length = m1.length then some (bothM (· || ·) m1 m2) else none) w e w' := by
  have hs1 := size_any P1 m1 w h1
  have hs2 := size_any P2 m2 w h2
  have hcp := copied_any P1 m1 w h1 hm1
  have HH1 := Aside0.mk h1
  have HH2 := Aside0.mk h2
  have HOP := Aside0.mk (fun hl j => word_or m1 m2 hl j)
  have HDO := Aside0.mk or_any
  have HM1 := Aside0.mk hm1
  generalize hrr : (if m2.length = m1.length then some (bothM (· || ·) m1 m2) else none) = r at *
  have HRR := Aside0.mk hrr
  clear hrr h1 h2
  by_cases hl : m2.length = m1.length
  · have HE := Aside0.mk (show r = some (bothM (· || ·) m1 m2) from by rw [← HRR.out, if_pos hl])
    have HLL := Aside0.mk hl
    rw [hl] at hs2
    generalize ((m1.length : Nat) : Int) = n at hs1 hs2
    clear hl hm1
    go_enter Tryd.func29, Tryd.ntmps29
    go_wp2_with fail
    refine hs1.mono ?_
    rintro e w1 ⟨rfl, rfl⟩
    go_wp2_with fail
    refine hs2.mono ?_
    rintro e w2 ⟨rfl, rfl⟩
    clear hs1 hs2
    go_wp2_with fail
    refine hcp.mono ?_
    rintro e w3 ⟨⟨g, rfl, hg0⟩, hb⟩
    have HB := Aside0.mk hb
    obtain ⟨v, hg, hbg, hR⟩ := hg0
    obtain ⟨Av, cv, rfl⟩ := Kd.R_slice hR
    have hnwl : (wordsOf m1).length = (m1.length + 63) / 64 := wordsOf_len m1
    have HML := Aside0.mk (show (bothM (· || ·) m1 m2).length = m1.length from bothM_len _ _ _)
    generalize hnw : (wordsOf m1).length = nw at *
    have HNW := Aside0.mk hnwl
    have HR := Aside0.mk hR
    rw [← mixW_zero (bothM (· || ·) m1 m2) m1] at HR
    have HG := Aside0.mk hg
    have HBG := Aside0.mk hbg
    have HNWL := Aside0.mk hnw
    have hn16 : nw ≤ 100 := by have := HM1.out; omega
    have c0 := blk_cell hg 1
    clear hg hR hbg hb hcp hnw hnwl
    go_wp2_with fail
    go_loopw [22, 9] (fun s22 s9 wr => ∃ j : Nat, s22 = .int .i64 j ∧ j ≤ nw ∧ Aside0 (Kd.R (Kd.int .u64) 51 wr w2.heap.size (fun _ => True) (.slice Av nw cv) (mixW (bothM (· || ·) m1 m2) m1 j)) ∧ Aside0 (wr.heap[g]? = some (.cells #[.int .i64 (m1.length : Nat), .slice Av nw cv] 54 (0, 0))) ∧ Aside0 (Below w2.heap.size w2 wr)) (fun s _ _ => nw - (intOf s).toNat)
    case atStart => exact ⟨0, rfl, Nat.zero_le _, HR, HG, HB⟩
    case round =>
      clear HR HG HB c0
      obtain ⟨j, rfl, hj, HX, HGG, HBW⟩ := hrel
      by_cases h1 : j < nw
      · have h1' : (j : Int) < (nw : Int) := by omega
        have HJ := Aside0.mk (show j < (m1.length + 63) / 64 from by rw [← HNW.out]; exact h1)
        obtain ⟨inner, hown⟩ := Kd.R_own HX.out
        obtain ⟨b, rfl⟩ : ∃ b, Av = some ⟨b, 0, none⟩ := by
          rcases hown.2 with ⟨e', _⟩ | ⟨b, cap, cur, e', _⟩
          · simp only [Value.slice.injEq] at e'
            omega
          · simp only [Value.slice.injEq] at e'
            exact ⟨b, e'.1⟩
        have hbb : w2.heap.size ≤ b := own_base hown b rfl
        obtain ⟨cs, hcs⟩ := own_typed hown b rfl
        have hgb : g ≠ b := blk_ne HGG.out hcs (by decide)
        have hmix : (mixW (bothM (· || ·) m1 m2) m1 j).length = nw := by rw [mixW_len, HNW.out]
        have HPUT := Aside0.mk (fun W (hW : Kd.R (Kd.int .u64) 51 W w2.heap.size (fun _ => True) (.slice (some ⟨b, 0, none⟩) nw cv) (mixW (bothM (· || ·) m1 m2) m1 j)) => by
          rw [← hmix] at hW
          have h9 := (Kd.R_put hW (j : Int) ((wordN (bothM (· || ·) m1 m2) j : Nat) : Int)).1
          rw [Int.toNat_natCast, mixW_next _ _ _ HJ.out, hmix] at h9
          exact h9)
        have hbc : wr.cell? ⟨b, j, none⟩ = some (.int .u64 (rdOf 0 (mixW (bothM (· || ·) m1 m2) m1 j) (j : Int))) ∧ wr.frozen? ⟨b, j, none⟩ = false := by
          have hX := HX.out
          rw [← hmix] at hX
          have := Kd.R_cell (d := (0 : Int)) hX (j : Int) (by omega) (by omega)
          rwa [Int.toNat_natCast] at this
        obtain ⟨g1, a1, c1, rfl, e1, x1, y1, z1⟩ := set_word HH1.out HBW.out j HJ.out
        obtain ⟨g2, a2, c2, rfl, e2, x2, y2, z2⟩ := set_word HH2.out HBW.out j (by rw [HLL.out]; exact HJ.out)
        have hl1 : (wordsOf m1).length = nw := HNWL.out
        have hl2 : (wordsOf m2).length = nw := by rw [wordsOf_len, HLL.out, HNW.out]
        rw [hl1] at x1
        rw [hl2] at x2
        have c0 := blk_cell HGG.out 1
        have hcell : wr.cell? ⟨g, 1, none⟩ = some (.slice (some ⟨b, 0, none⟩) nw cv) ∧ wr.cell? ⟨g1, 1, none⟩ = some (.slice (some a1) nw c1) ∧ wr.cell? (a1.add j) = some (.int .u64 ((wordN m1 j : Nat) : Int)) ∧ wr.cell? ⟨g2, 1, none⟩ = some (.slice (some a2) nw c2) ∧ wr.cell? (a2.add j) = some (.int .u64 ((wordN m2 j : Nat) : Int)) := ⟨c0, x1, y1, x2, y2⟩
        have HNE := Aside0.mk (show g ≠ b ∧ g1 ≠ b ∧ (a1.add j).block ≠ b ∧ g2 ≠ b ∧ (a2.add j).block ≠ b from ⟨hgb, by omega, by omega, by omega, by omega⟩)
        have HBB := Aside0.mk hbb
        have HCALL := Aside0.mk (show ∀ W, Calls Tryd.prog 30 #[.int .u64 ((wordN m1 j : Nat) : Int), .int .u64 ((wordN m2 j : Nat) : Int)] W fun e w' => e = .returned (.int .u64 ((wordN (bothM (· || ·) m1 m2) j : Nat) : Int)) ∧ w' = W from fun W => by
          have h9 := HDO.out ((wordN m1 j : Nat) : Int) ((wordN m2 j : Nat) : Int) W
          rwa [HOP.out HLL.out j] at h9)
        obtain ⟨b1, b2⟩ := hbc
        clear hown hcs hbb hgb c0 x1 y1 z1 x2 y2 z2 e1 e2 hl1 hl2 h1 hmix
        generalize rdOf 0 (mixW (bothM (· || ·) m1 m2) m1 j) (j : Int) = old at *
        generalize ((wordN (bothM (· || ·) m1 m2) j : Nat) : Int) = nwv at *
        go_wp2_with fail
        refine wp_region_held_drew (S := (fun w' => w'.cell? ⟨g, 1, none⟩ = some (.slice (some ⟨b, 0, none⟩) nw cv) ∧ w'.cell? ⟨g1, 1, none⟩ = some (.slice (some a1) nw c1) ∧ w'.cell? (a1.add j) = some (.int .u64 ((wordN m1 j : Nat) : Int)) ∧ w'.cell? ⟨g2, 1, none⟩ = some (.slice (some a2) nw c2) ∧ w'.cell? (a2.add j) = some (.int .u64 ((wordN m2 j : Nat) : Int)))) (by kernel_rfl) ?hSa0 (fun hHeld => ?_)
        case hSa0 => first | assumption | exact ⟨cfar hcell.1 HNE.out.1 _, cfar hcell.2.1 HNE.out.2.1 _, cfar hcell.2.2.1 HNE.out.2.2.1 _, cfar hcell.2.2.2.1 HNE.out.2.2.2.1 _, cfar hcell.2.2.2.2 HNE.out.2.2.2.2 _⟩ | go_keep
        refine held_take 0 (some 25) (v := ?va0) rfl rfl (by kernel_rfl) (by kernel_rfl) (by kernel_rfl) (fun _ _ _ h => h) (by rfl) ?ya0 (by assumption) ?_
        case ya0 => ((intro w hSw); (try dsimp only at hSw); go_simp <;> (with_reducible rfl))
        try simp only [Act.put, List.setIfInBounds_toArray, List.set_cons_zero, List.set_cons_succ]
        refine held_take 1 (some 26) (v := ?va1) rfl rfl (by kernel_rfl) (by kernel_rfl) (by kernel_rfl) (fun _ _ _ h => h) (by rfl) ?ya1 (by assumption) ?_
        case ya1 => ((intro w hSw); (try dsimp only at hSw); go_simp <;> (with_reducible rfl))
        try simp only [Act.put, List.setIfInBounds_toArray, List.set_cons_zero, List.set_cons_succ]
        refine held_take 2 (some 27) (v := ?va2) rfl rfl (by kernel_rfl) (by kernel_rfl) (by kernel_rfl) (fun _ _ _ h => h) (by rfl) ?ya2 (by assumption) ?_
        case ya2 => ((intro w hSw); (try dsimp only at hSw); go_simp <;> (with_reducible rfl))
        try simp only [Act.put, List.setIfInBounds_toArray, List.set_cons_zero, List.set_cons_succ]
        refine held_take 3 (some 28) (v := ?va3) rfl rfl (by kernel_rfl) (by kernel_rfl) (by kernel_rfl) (fun _ _ _ h => h) (by rfl) ?ya3 (by assumption) ?_
        case ya3 => ((intro w hSw); (try dsimp only at hSw); go_simp <;> (with_reducible rfl))
        try simp only [Act.put, List.setIfInBounds_toArray, List.set_cons_zero, List.set_cons_succ]
        refine held_take 4 (some 29) (v := ?va4) rfl rfl (by kernel_rfl) (by kernel_rfl) (by kernel_rfl) (fun _ _ _ h => h) (by rfl) ?ya4 (by assumption) ?_
        case ya4 => ((intro w hSw); (try dsimp only at hSw); go_simp <;> (with_reducible rfl))
        try simp only [Act.put, List.setIfInBounds_toArray, List.set_cons_zero, List.set_cons_succ]
        refine held_take 5 (some 30) (v := ?va5) rfl rfl (by kernel_rfl) (by kernel_rfl) (by kernel_rfl) (fun _ _ _ h => h) (by rfl) ?ya5 (by assumption) ?_
        case ya5 => ((intro w hSw); (try dsimp only at hSw); go_simp <;> (with_reducible rfl))
        try simp only [Act.put, List.setIfInBounds_toArray, List.set_cons_zero, List.set_cons_succ]
        refine held_take 6 (some 31) (v := ?va6) rfl rfl (by kernel_rfl) (by kernel_rfl) (by kernel_rfl) (fun _ _ _ h => h) (by rfl) ?ya6 (by assumption) ?_
        case ya6 => ((intro w hSw); (try dsimp only at hSw); go_simp <;> (with_reducible rfl))
        try simp only [Act.put, List.setIfInBounds_toArray, List.set_cons_zero, List.set_cons_succ]
        refine held_take 7 (some 32) (v := ?va7) rfl rfl (by kernel_rfl) (by kernel_rfl) (by kernel_rfl) (fun _ _ _ h => h) (by rfl) ?ya7 (by assumption) ?_
        case ya7 => ((intro w hSw); (try dsimp only at hSw); go_simp <;> (with_reducible rfl))
        try simp only [Act.put, List.setIfInBounds_toArray, List.set_cons_zero, List.set_cons_succ]
        refine held_take 8 (some 33) (v := ?va8) rfl rfl (by kernel_rfl) (by kernel_rfl) (by kernel_rfl) (fun _ _ _ h => h) (by rfl) ?ya8 (by assumption) ?_
        case ya8 => ((intro w hSw); (try dsimp only at hSw); go_simp <;> (with_reducible rfl))
        try simp only [Act.put, List.setIfInBounds_toArray, List.set_cons_zero, List.set_cons_succ]
        refine held_take 9 (some 34) (v := ?va9) rfl rfl (by kernel_rfl) (by kernel_rfl) (by kernel_rfl) (fun _ _ _ h => h) (by rfl) ?ya9 (by assumption) ?_
        case ya9 => ((intro w hSw); (try dsimp only at hSw); go_simp <;> (with_reducible rfl))
        try simp only [Act.put, List.setIfInBounds_toArray, List.set_cons_zero, List.set_cons_succ]
        refine held_take 10 (some 35) (v := ?va10) rfl rfl (by kernel_rfl) (by kernel_rfl) (by kernel_rfl) (fun _ _ _ h => h) (by rfl) ?ya10 (by assumption) ?_
        case ya10 => ((intro w hSw); (try dsimp only at hSw); go_simp <;> (with_reducible rfl))
        try simp only [Act.put, List.setIfInBounds_toArray, List.set_cons_zero, List.set_cons_succ]
        refine held_take 11 (some 36) (v := ?va11) rfl rfl (by kernel_rfl) (by kernel_rfl) (by kernel_rfl) (fun _ _ _ h => h) (by rfl) ?ya11 (by assumption) ?_
        case ya11 => ((intro w hSw); (try dsimp only at hSw); go_simp <;> (with_reducible rfl))
        try simp only [Act.put, List.setIfInBounds_toArray, List.set_cons_zero, List.set_cons_succ]
        refine held_take 12 (some 37) (v := ?va12) rfl rfl (by kernel_rfl) (by kernel_rfl) (by kernel_rfl) (fun _ _ _ h => h) (by rfl) ?ya12 (by assumption) ?_
        case ya12 => ((intro w hSw); (try dsimp only at hSw); go_simp <;> (with_reducible rfl))
        try simp only [Act.put, List.setIfInBounds_toArray, List.set_cons_zero, List.set_cons_succ]
        refine held_take 13 (some 38) (v := ?va13) rfl rfl (by kernel_rfl) (by kernel_rfl) (by kernel_rfl) (fun _ _ _ h => h) (by rfl) ?ya13 (by assumption) ?_
        case ya13 => ((intro w hSw); (try dsimp only at hSw); go_simp <;> (with_reducible rfl))
        try simp only [Act.put, List.setIfInBounds_toArray, List.set_cons_zero, List.set_cons_succ]
        refine held_take 14 (some 39) (v := ?va14) rfl rfl (by kernel_rfl) (by kernel_rfl) (by kernel_rfl) (fun _ _ _ h => h) (by rfl) ?ya14 (by assumption) ?_
        case ya14 => ((intro w hSw); (try dsimp only at hSw); go_simp <;> (with_reducible rfl))
        try simp only [Act.put, List.setIfInBounds_toArray, List.set_cons_zero, List.set_cons_succ]
        refine held_take 15 (some 40) (v := ?va15) rfl rfl (by kernel_rfl) (by kernel_rfl) (by kernel_rfl) (fun _ _ _ h => h) (by rfl) ?ya15 (by assumption) ?_
        case ya15 => ((intro w hSw); (try dsimp only at hSw); go_simp <;> (with_reducible rfl))
        try simp only [Act.put, List.setIfInBounds_toArray, List.set_cons_zero, List.set_cons_succ]
        refine held_take 16 (some 41) (v := ?va16) rfl rfl (by kernel_rfl) (by kernel_rfl) (by kernel_rfl) (fun _ _ _ h => h) (by rfl) ?ya16 (by assumption) ?_
        case ya16 => ((intro w hSw); (try dsimp only at hSw); go_simp <;> (with_reducible rfl))
        try simp only [Act.put, List.setIfInBounds_toArray, List.set_cons_zero, List.set_cons_succ]
        refine held_take 17 (some 42) (v := ?va17) rfl rfl (by kernel_rfl) (by kernel_rfl) (by kernel_rfl) (fun _ _ _ h => h) (by rfl) ?ya17 (by assumption) ?_
        case ya17 => ((intro w hSw); (try dsimp only at hSw); go_simp <;> (with_reducible rfl))
        try simp only [Act.put, List.setIfInBounds_toArray, List.set_cons_zero, List.set_cons_succ]
        refine held_take 18 (some 43) (v := ?va18) rfl rfl (by kernel_rfl) (by kernel_rfl) (by kernel_rfl) (fun _ _ _ h => h) (by rfl) ?ya18 (by assumption) ?_
        case ya18 => ((intro w hSw); (try dsimp only at hSw); go_simp <;> (with_reducible rfl))
        try simp only [Act.put, List.setIfInBounds_toArray, List.set_cons_zero, List.set_cons_succ]
        refine held_take 19 (some 44) (v := ?va19) rfl rfl (by kernel_rfl) (by kernel_rfl) (by kernel_rfl) (fun _ _ _ h => h) (by rfl) ?ya19 (by assumption) ?_
        case ya19 => ((intro w hSw); (try dsimp only at hSw); go_simp <;> (with_reducible rfl))
        try simp only [Act.put, List.setIfInBounds_toArray, List.set_cons_zero, List.set_cons_succ]
        refine wpAnyH_ready (rs := [20]) (by kernel_rfl) (by simp) ?_
        refine AllReadyH.cons rfl (fun K hK => ?_) AllReadyH.nil
        go_simp
        refine (HCALL.out _).mono ?_
        rintro e w5 ⟨rfl, rfl⟩
        refine hK.out _ _ ?hSa21 (fun hHeld => ?_)
        case hSa21 => first | assumption | exact ⟨cfar hcell.1 HNE.out.1 _, cfar hcell.2.1 HNE.out.2.1 _, cfar hcell.2.2.1 HNE.out.2.2.1 _, cfar hcell.2.2.2.1 HNE.out.2.2.2.1 _, cfar hcell.2.2.2.2 HNE.out.2.2.2.2 _⟩ | go_keep
        clear hK K
        try simp only [Act.put, List.setIfInBounds_toArray, List.set_cons_zero, List.set_cons_succ]
        refine held_take 21 (some 46) (v := ?va21) rfl rfl (by kernel_rfl) (by kernel_rfl) (by kernel_rfl) (fun _ _ _ h => h) (by rfl) ?ya21 (by assumption) ?_
        case ya21 => ((intro w hSw); (try dsimp only at hSw); go_simp <;> (with_reducible rfl))
        try simp only [Act.put, List.setIfInBounds_toArray, List.set_cons_zero, List.set_cons_succ]
        refine wpAnyH_ready (rs := [22]) (by kernel_rfl) (by simp) ?_
        refine AllReadyH.cons rfl (fun K hK => ?_) AllReadyH.nil
        go_simp
        refine hK.out _ _ ?hSa23 (fun hHeld => ?_)
        case hSa23 => first | assumption | exact ⟨cfar hcell.1 HNE.out.1 _, cfar hcell.2.1 HNE.out.2.1 _, cfar hcell.2.2.1 HNE.out.2.2.1 _, cfar hcell.2.2.2.1 HNE.out.2.2.2.1 _, cfar hcell.2.2.2.2 HNE.out.2.2.2.2 _⟩ | go_keep
        clear hK K
        try simp only [Act.put, List.setIfInBounds_toArray, List.set_cons_zero, List.set_cons_succ]
        refine wpAnyH_done (by kernel_rfl) ?_ _
        have HX2 := Aside0.mk (Kd.R_drew (HPUT.out wr HX.out))
        have HG2 := Aside0.mk (blk_drew (blk_far HGG.out (p := ⟨b, j, none⟩) HNE.out.1 (.int .u64 nwv)))
        have HB2 := Aside0.mk (below_drew (HBW.out.setCell (p := ⟨b, j, none⟩) HBB.out (.int .u64 nwv)))
        clear b1 b2 hcell
        go_wp2_with fail
        go_roundw
        case rel => exact ⟨j + 1, by go_num, by omega, HX2, HG2, HB2⟩
        case measure => simp [intOf]; omega
      · have h1' : ¬ (j : Int) < (nw : Int) := by omega
        have HJE := Aside0.mk (show j = (m1.length + 63) / 64 from by rw [← HNW.out]; omega)
        go_wp2_with fail
        go_ret2
        have h9 := HX.out
        rw [HJE.out, mixW_end _ _ HML.out] at h9
        exact ⟨.inr ⟨_, g, HE.out, rfl, .slice Av nw cv, by rw [HML.out]; exact HGG.out, HBG.out, h9⟩, HBW.out⟩
  · have HE := Aside0.mk (show r = none from by rw [← HRR.out, if_neg hl])
    have hne : (((m1.length : Nat) : Int) != ((m2.length : Nat) : Int)) = true := by rw [bne_iff_ne]; omega
    have hne2 : (((m1.length : Nat) : Int) == ((m2.length : Nat) : Int)) = false := by rw [beq_eq_false_iff_ne]; omega
    generalize ((m1.length : Nat) : Int) = n1 at *
    generalize ((m2.length : Nat) : Int) = n2 at *
    clear hl hm1 hcp
    go_enter Tryd.func29, Tryd.ntmps29
    go_wp2_with fail
    refine hs1.mono ?_
    rintro e w1 ⟨rfl, rfl⟩
    go_wp2_with fail
    refine hs2.mono ?_
    rintro e w2 ⟨rfl, rfl⟩
    go_wp2_with fail
    go_ret2
    exact ⟨.inl ⟨HE.out, rfl⟩, Below.refl _ _⟩
set_option maxRecDepth 20000 in
set_option maxHeartbeats 4000000 in
theorem both_minus (m1 m2 : List Bool) (P1 P2 : Option Addr) (w : World) (h1 : SetAt w P1 m1) (h2 : SetAt w P2 m2) (hm1 : m1.length ≤ 1024) :
    Calls Tryd.prog 29 #[.pointer P1, .pointer P2, .func (.func 33) #[] #[]] w fun e w' => OfAt (if m2.length = m1.length then some (bothM (fun a b => a && !b) m1 m2) else none) w e w' := by
  have hs1 := size_any P1 m1 w h1
  have hs2 := size_any P2 m2 w h2
  have hcp := copied_any P1 m1 w h1 hm1
  have HH1 := Aside0.mk h1
  have HH2 := Aside0.mk h2
  have HOP := Aside0.mk (fun hl j => word_minus m1 m2 hl j)
  have HDO := Aside0.mk minus_any
  have HM1 := Aside0.mk hm1
  generalize hrr : (if m2.length = m1.length then some (bothM (fun a b => a && !b) m1 m2) else none) = r at *
  have HRR := Aside0.mk hrr
  clear hrr h1 h2
  by_cases hl : m2.length = m1.length
  · have HE := Aside0.mk (show r = some (bothM (fun a b => a && !b) m1 m2) from by rw [← HRR.out, if_pos hl])
    have HLL := Aside0.mk hl
    rw [hl] at hs2
    generalize ((m1.length : Nat) : Int) = n at hs1 hs2
    clear hl hm1
    go_enter Tryd.func29, Tryd.ntmps29
    go_wp2_with fail
    refine hs1.mono ?_
    rintro e w1 ⟨rfl, rfl⟩
    go_wp2_with fail
    refine hs2.mono ?_
    rintro e w2 ⟨rfl, rfl⟩
    clear hs1 hs2
    go_wp2_with fail
    refine hcp.mono ?_
    rintro e w3 ⟨⟨g, rfl, hg0⟩, hb⟩
    have HB := Aside0.mk hb
    obtain ⟨v, hg, hbg, hR⟩ := hg0
    obtain ⟨Av, cv, rfl⟩ := Kd.R_slice hR
    have hnwl : (wordsOf m1).length = (m1.length + 63) / 64 := wordsOf_len m1
    have HML := Aside0.mk (show (bothM (fun a b => a && !b) m1 m2).length = m1.length from bothM_len _ _ _)
    generalize hnw : (wordsOf m1).length = nw at *
    have HNW := Aside0.mk hnwl
    have HR := Aside0.mk hR
    rw [← mixW_zero (bothM (fun a b => a && !b) m1 m2) m1] at HR
    have HG := Aside0.mk hg
    have HBG := Aside0.mk hbg
    have HNWL := Aside0.mk hnw
    have hn16 : nw ≤ 100 := by have := HM1.out; omega
    have c0 := blk_cell hg 1
    clear hg hR hbg hb hcp hnw hnwl
    go_wp2_with fail
    go_loopw [22, 9] (fun s22 s9 wr => ∃ j : Nat, s22 = .int .i64 j ∧ j ≤ nw ∧ Aside0 (Kd.R (Kd.int .u64) 51 wr w2.heap.size (fun _ => True) (.slice Av nw cv) (mixW (bothM (fun a b => a && !b) m1 m2) m1 j)) ∧ Aside0 (wr.heap[g]? = some (.cells #[.int .i64 (m1.length : Nat), .slice Av nw cv] 54 (0, 0))) ∧ Aside0 (Below w2.heap.size w2 wr)) (fun s _ _ => nw - (intOf s).toNat)
    case atStart => exact ⟨0, rfl, Nat.zero_le _, HR, HG, HB⟩
    case round =>
      clear HR HG HB c0
      obtain ⟨j, rfl, hj, HX, HGG, HBW⟩ := hrel
      by_cases h1 : j < nw
      · have h1' : (j : Int) < (nw : Int) := by omega
        have HJ := Aside0.mk (show j < (m1.length + 63) / 64 from by rw [← HNW.out]; exact h1)
        obtain ⟨inner, hown⟩ := Kd.R_own HX.out
        obtain ⟨b, rfl⟩ : ∃ b, Av = some ⟨b, 0, none⟩ := by
          rcases hown.2 with ⟨e', _⟩ | ⟨b, cap, cur, e', _⟩
          · simp only [Value.slice.injEq] at e'
            omega
          · simp only [Value.slice.injEq] at e'
            exact ⟨b, e'.1⟩
        have hbb : w2.heap.size ≤ b := own_base hown b rfl
        obtain ⟨cs, hcs⟩ := own_typed hown b rfl
        have hgb : g ≠ b := blk_ne HGG.out hcs (by decide)
        have hmix : (mixW (bothM (fun a b => a && !b) m1 m2) m1 j).length = nw := by rw [mixW_len, HNW.out]
        have HPUT := Aside0.mk (fun W (hW : Kd.R (Kd.int .u64) 51 W w2.heap.size (fun _ => True) (.slice (some ⟨b, 0, none⟩) nw cv) (mixW (bothM (fun a b => a && !b) m1 m2) m1 j)) => by
          rw [← hmix] at hW
          have h9 := (Kd.R_put hW (j : Int) ((wordN (bothM (fun a b => a && !b) m1 m2) j : Nat) : Int)).1
          rw [Int.toNat_natCast, mixW_next _ _ _ HJ.out, hmix] at h9
          exact h9)
        have hbc : wr.cell? ⟨b, j, none⟩ = some (.int .u64 (rdOf 0 (mixW (bothM (fun a b => a && !b) m1 m2) m1 j) (j : Int))) ∧ wr.frozen? ⟨b, j, none⟩ = false := by
          have hX := HX.out
          rw [← hmix] at hX
          have := Kd.R_cell (d := (0 : Int)) hX (j : Int) (by omega) (by omega)
          rwa [Int.toNat_natCast] at this
        obtain ⟨g1, a1, c1, rfl, e1, x1, y1, z1⟩ := set_word HH1.out HBW.out j HJ.out
        obtain ⟨g2, a2, c2, rfl, e2, x2, y2, z2⟩ := set_word HH2.out HBW.out j (by rw [HLL.out]; exact HJ.out)
        have hl1 : (wordsOf m1).length = nw := HNWL.out
        have hl2 : (wordsOf m2).length = nw := by rw [wordsOf_len, HLL.out, HNW.out]
        rw [hl1] at x1
        rw [hl2] at x2
        have c0 := blk_cell HGG.out 1
        have hcell : wr.cell? ⟨g, 1, none⟩ = some (.slice (some ⟨b, 0, none⟩) nw cv) ∧ wr.cell? ⟨g1, 1, none⟩ = some (.slice (some a1) nw c1) ∧ wr.cell? (a1.add j) = some (.int .u64 ((wordN m1 j : Nat) : Int)) ∧ wr.cell? ⟨g2, 1, none⟩ = some (.slice (some a2) nw c2) ∧ wr.cell? (a2.add j) = some (.int .u64 ((wordN m2 j : Nat) : Int)) := ⟨c0, x1, y1, x2, y2⟩
        have HNE := Aside0.mk (show g ≠ b ∧ g1 ≠ b ∧ (a1.add j).block ≠ b ∧ g2 ≠ b ∧ (a2.add j).block ≠ b from ⟨hgb, by omega, by omega, by omega, by omega⟩)
        have HBB := Aside0.mk hbb
        have HCALL := Aside0.mk (show ∀ W, Calls Tryd.prog 33 #[.int .u64 ((wordN m1 j : Nat) : Int), .int .u64 ((wordN m2 j : Nat) : Int)] W fun e w' => e = .returned (.int .u64 ((wordN (bothM (fun a b => a && !b) m1 m2) j : Nat) : Int)) ∧ w' = W from fun W => by
          have h9 := HDO.out ((wordN m1 j : Nat) : Int) ((wordN m2 j : Nat) : Int) W
          rwa [HOP.out HLL.out j] at h9)
        obtain ⟨b1, b2⟩ := hbc
        clear hown hcs hbb hgb c0 x1 y1 z1 x2 y2 z2 e1 e2 hl1 hl2 h1 hmix
        generalize rdOf 0 (mixW (bothM (fun a b => a && !b) m1 m2) m1 j) (j : Int) = old at *
        generalize ((wordN (bothM (fun a b => a && !b) m1 m2) j : Nat) : Int) = nwv at *
        go_wp2_with fail
        refine wp_region_held_drew (S := (fun w' => w'.cell? ⟨g, 1, none⟩ = some (.slice (some ⟨b, 0, none⟩) nw cv) ∧ w'.cell? ⟨g1, 1, none⟩ = some (.slice (some a1) nw c1) ∧ w'.cell? (a1.add j) = some (.int .u64 ((wordN m1 j : Nat) : Int)) ∧ w'.cell? ⟨g2, 1, none⟩ = some (.slice (some a2) nw c2) ∧ w'.cell? (a2.add j) = some (.int .u64 ((wordN m2 j : Nat) : Int)))) (by kernel_rfl) ?hSa0 (fun hHeld => ?_)
        case hSa0 => first | assumption | exact ⟨cfar hcell.1 HNE.out.1 _, cfar hcell.2.1 HNE.out.2.1 _, cfar hcell.2.2.1 HNE.out.2.2.1 _, cfar hcell.2.2.2.1 HNE.out.2.2.2.1 _, cfar hcell.2.2.2.2 HNE.out.2.2.2.2 _⟩ | go_keep
        refine held_take 0 (some 25) (v := ?va0) rfl rfl (by kernel_rfl) (by kernel_rfl) (by kernel_rfl) (fun _ _ _ h => h) (by rfl) ?ya0 (by assumption) ?_
        case ya0 => ((intro w hSw); (try dsimp only at hSw); go_simp <;> (with_reducible rfl))
        try simp only [Act.put, List.setIfInBounds_toArray, List.set_cons_zero, List.set_cons_succ]
        refine held_take 1 (some 26) (v := ?va1) rfl rfl (by kernel_rfl) (by kernel_rfl) (by kernel_rfl) (fun _ _ _ h => h) (by rfl) ?ya1 (by assumption) ?_
        case ya1 => ((intro w hSw); (try dsimp only at hSw); go_simp <;> (with_reducible rfl))
        try simp only [Act.put, List.setIfInBounds_toArray, List.set_cons_zero, List.set_cons_succ]
        refine held_take 2 (some 27) (v := ?va2) rfl rfl (by kernel_rfl) (by kernel_rfl) (by kernel_rfl) (fun _ _ _ h => h) (by rfl) ?ya2 (by assumption) ?_
        case ya2 => ((intro w hSw); (try dsimp only at hSw); go_simp <;> (with_reducible rfl))
        try simp only [Act.put, List.setIfInBounds_toArray, List.set_cons_zero, List.set_cons_succ]
        refine held_take 3 (some 28) (v := ?va3) rfl rfl (by kernel_rfl) (by kernel_rfl) (by kernel_rfl) (fun _ _ _ h => h) (by rfl) ?ya3 (by assumption) ?_
        case ya3 => ((intro w hSw); (try dsimp only at hSw); go_simp <;> (with_reducible rfl))
        try simp only [Act.put, List.setIfInBounds_toArray, List.set_cons_zero, List.set_cons_succ]
        refine held_take 4 (some 29) (v := ?va4) rfl rfl (by kernel_rfl) (by kernel_rfl) (by kernel_rfl) (fun _ _ _ h => h) (by rfl) ?ya4 (by assumption) ?_
        case ya4 => ((intro w hSw); (try dsimp only at hSw); go_simp <;> (with_reducible rfl))
        try simp only [Act.put, List.setIfInBounds_toArray, List.set_cons_zero, List.set_cons_succ]
        refine held_take 5 (some 30) (v := ?va5) rfl rfl (by kernel_rfl) (by kernel_rfl) (by kernel_rfl) (fun _ _ _ h => h) (by rfl) ?ya5 (by assumption) ?_
        case ya5 => ((intro w hSw); (try dsimp only at hSw); go_simp <;> (with_reducible rfl))
        try simp only [Act.put, List.setIfInBounds_toArray, List.set_cons_zero, List.set_cons_succ]
        refine held_take 6 (some 31) (v := ?va6) rfl rfl (by kernel_rfl) (by kernel_rfl) (by kernel_rfl) (fun _ _ _ h => h) (by rfl) ?ya6 (by assumption) ?_
        case ya6 => ((intro w hSw); (try dsimp only at hSw); go_simp <;> (with_reducible rfl))
        try simp only [Act.put, List.setIfInBounds_toArray, List.set_cons_zero, List.set_cons_succ]
        refine held_take 7 (some 32) (v := ?va7) rfl rfl (by kernel_rfl) (by kernel_rfl) (by kernel_rfl) (fun _ _ _ h => h) (by rfl) ?ya7 (by assumption) ?_
        case ya7 => ((intro w hSw); (try dsimp only at hSw); go_simp <;> (with_reducible rfl))
        try simp only [Act.put, List.setIfInBounds_toArray, List.set_cons_zero, List.set_cons_succ]
        refine held_take 8 (some 33) (v := ?va8) rfl rfl (by kernel_rfl) (by kernel_rfl) (by kernel_rfl) (fun _ _ _ h => h) (by rfl) ?ya8 (by assumption) ?_
        case ya8 => ((intro w hSw); (try dsimp only at hSw); go_simp <;> (with_reducible rfl))
        try simp only [Act.put, List.setIfInBounds_toArray, List.set_cons_zero, List.set_cons_succ]
        refine held_take 9 (some 34) (v := ?va9) rfl rfl (by kernel_rfl) (by kernel_rfl) (by kernel_rfl) (fun _ _ _ h => h) (by rfl) ?ya9 (by assumption) ?_
        case ya9 => ((intro w hSw); (try dsimp only at hSw); go_simp <;> (with_reducible rfl))
        try simp only [Act.put, List.setIfInBounds_toArray, List.set_cons_zero, List.set_cons_succ]
        refine held_take 10 (some 35) (v := ?va10) rfl rfl (by kernel_rfl) (by kernel_rfl) (by kernel_rfl) (fun _ _ _ h => h) (by rfl) ?ya10 (by assumption) ?_
        case ya10 => ((intro w hSw); (try dsimp only at hSw); go_simp <;> (with_reducible rfl))
        try simp only [Act.put, List.setIfInBounds_toArray, List.set_cons_zero, List.set_cons_succ]
        refine held_take 11 (some 36) (v := ?va11) rfl rfl (by kernel_rfl) (by kernel_rfl) (by kernel_rfl) (fun _ _ _ h => h) (by rfl) ?ya11 (by assumption) ?_
        case ya11 => ((intro w hSw); (try dsimp only at hSw); go_simp <;> (with_reducible rfl))
        try simp only [Act.put, List.setIfInBounds_toArray, List.set_cons_zero, List.set_cons_succ]
        refine held_take 12 (some 37) (v := ?va12) rfl rfl (by kernel_rfl) (by kernel_rfl) (by kernel_rfl) (fun _ _ _ h => h) (by rfl) ?ya12 (by assumption) ?_
        case ya12 => ((intro w hSw); (try dsimp only at hSw); go_simp <;> (with_reducible rfl))
        try simp only [Act.put, List.setIfInBounds_toArray, List.set_cons_zero, List.set_cons_succ]
        refine held_take 13 (some 38) (v := ?va13) rfl rfl (by kernel_rfl) (by kernel_rfl) (by kernel_rfl) (fun _ _ _ h => h) (by rfl) ?ya13 (by assumption) ?_
        case ya13 => ((intro w hSw); (try dsimp only at hSw); go_simp <;> (with_reducible rfl))
        try simp only [Act.put, List.setIfInBounds_toArray, List.set_cons_zero, List.set_cons_succ]
        refine held_take 14 (some 39) (v := ?va14) rfl rfl (by kernel_rfl) (by kernel_rfl) (by kernel_rfl) (fun _ _ _ h => h) (by rfl) ?ya14 (by assumption) ?_
        case ya14 => ((intro w hSw); (try dsimp only at hSw); go_simp <;> (with_reducible rfl))
        try simp only [Act.put, List.setIfInBounds_toArray, List.set_cons_zero, List.set_cons_succ]
        refine held_take 15 (some 40) (v := ?va15) rfl rfl (by kernel_rfl) (by kernel_rfl) (by kernel_rfl) (fun _ _ _ h => h) (by rfl) ?ya15 (by assumption) ?_
        case ya15 => ((intro w hSw); (try dsimp only at hSw); go_simp <;> (with_reducible rfl))
        try simp only [Act.put, List.setIfInBounds_toArray, List.set_cons_zero, List.set_cons_succ]
        refine held_take 16 (some 41) (v := ?va16) rfl rfl (by kernel_rfl) (by kernel_rfl) (by kernel_rfl) (fun _ _ _ h => h) (by rfl) ?ya16 (by assumption) ?_
        case ya16 => ((intro w hSw); (try dsimp only at hSw); go_simp <;> (with_reducible rfl))
        try simp only [Act.put, List.setIfInBounds_toArray, List.set_cons_zero, List.set_cons_succ]
        refine held_take 17 (some 42) (v := ?va17) rfl rfl (by kernel_rfl) (by kernel_rfl) (by kernel_rfl) (fun _ _ _ h => h) (by rfl) ?ya17 (by assumption) ?_
        case ya17 => ((intro w hSw); (try dsimp only at hSw); go_simp <;> (with_reducible rfl))
        try simp only [Act.put, List.setIfInBounds_toArray, List.set_cons_zero, List.set_cons_succ]
        refine held_take 18 (some 43) (v := ?va18) rfl rfl (by kernel_rfl) (by kernel_rfl) (by kernel_rfl) (fun _ _ _ h => h) (by rfl) ?ya18 (by assumption) ?_
        case ya18 => ((intro w hSw); (try dsimp only at hSw); go_simp <;> (with_reducible rfl))
        try simp only [Act.put, List.setIfInBounds_toArray, List.set_cons_zero, List.set_cons_succ]
        refine held_take 19 (some 44) (v := ?va19) rfl rfl (by kernel_rfl) (by kernel_rfl) (by kernel_rfl) (fun _ _ _ h => h) (by rfl) ?ya19 (by assumption) ?_
        case ya19 => ((intro w hSw); (try dsimp only at hSw); go_simp <;> (with_reducible rfl))
        try simp only [Act.put, List.setIfInBounds_toArray, List.set_cons_zero, List.set_cons_succ]
        refine wpAnyH_ready (rs := [20]) (by kernel_rfl) (by simp) ?_
        refine AllReadyH.cons rfl (fun K hK => ?_) AllReadyH.nil
        go_simp
        refine (HCALL.out _).mono ?_
        rintro e w5 ⟨rfl, rfl⟩
        refine hK.out _ _ ?hSa21 (fun hHeld => ?_)
        case hSa21 => first | assumption | exact ⟨cfar hcell.1 HNE.out.1 _, cfar hcell.2.1 HNE.out.2.1 _, cfar hcell.2.2.1 HNE.out.2.2.1 _, cfar hcell.2.2.2.1 HNE.out.2.2.2.1 _, cfar hcell.2.2.2.2 HNE.out.2.2.2.2 _⟩ | go_keep
        clear hK K
        try simp only [Act.put, List.setIfInBounds_toArray, List.set_cons_zero, List.set_cons_succ]
        refine held_take 21 (some 46) (v := ?va21) rfl rfl (by kernel_rfl) (by kernel_rfl) (by kernel_rfl) (fun _ _ _ h => h) (by rfl) ?ya21 (by assumption) ?_
        case ya21 => ((intro w hSw); (try dsimp only at hSw); go_simp <;> (with_reducible rfl))
        try simp only [Act.put, List.setIfInBounds_toArray, List.set_cons_zero, List.set_cons_succ]
        refine wpAnyH_ready (rs := [22]) (by kernel_rfl) (by simp) ?_
        refine AllReadyH.cons rfl (fun K hK => ?_) AllReadyH.nil
        go_simp
        refine hK.out _ _ ?hSa23 (fun hHeld => ?_)
        case hSa23 => first | assumption | exact ⟨cfar hcell.1 HNE.out.1 _, cfar hcell.2.1 HNE.out.2.1 _, cfar hcell.2.2.1 HNE.out.2.2.1 _, cfar hcell.2.2.2.1 HNE.out.2.2.2.1 _, cfar hcell.2.2.2.2 HNE.out.2.2.2.2 _⟩ | go_keep
        clear hK K
        try simp only [Act.put, List.setIfInBounds_toArray, List.set_cons_zero, List.set_cons_succ]
        refine wpAnyH_done (by kernel_rfl) ?_ _
        have HX2 := Aside0.mk (Kd.R_drew (HPUT.out wr HX.out))
        have HG2 := Aside0.mk (blk_drew (blk_far HGG.out (p := ⟨b, j, none⟩) HNE.out.1 (.int .u64 nwv)))
        have HB2 := Aside0.mk (below_drew (HBW.out.setCell (p := ⟨b, j, none⟩) HBB.out (.int .u64 nwv)))
        clear b1 b2 hcell
        go_wp2_with fail
        go_roundw
        case rel => exact ⟨j + 1, by go_num, by omega, HX2, HG2, HB2⟩
        case measure => simp [intOf]; omega
      · have h1' : ¬ (j : Int) < (nw : Int) := by omega
        have HJE := Aside0.mk (show j = (m1.length + 63) / 64 from by rw [← HNW.out]; omega)
        go_wp2_with fail
        go_ret2
        have h9 := HX.out
        rw [HJE.out, mixW_end _ _ HML.out] at h9
        exact ⟨.inr ⟨_, g, HE.out, rfl, .slice Av nw cv, by rw [HML.out]; exact HGG.out, HBG.out, h9⟩, HBW.out⟩
  · have HE := Aside0.mk (show r = none from by rw [← HRR.out, if_neg hl])
    have hne : (((m1.length : Nat) : Int) != ((m2.length : Nat) : Int)) = true := by rw [bne_iff_ne]; omega
    have hne2 : (((m1.length : Nat) : Int) == ((m2.length : Nat) : Int)) = false := by rw [beq_eq_false_iff_ne]; omega
    generalize ((m1.length : Nat) : Int) = n1 at *
    generalize ((m2.length : Nat) : Int) = n2 at *
    clear hl hm1 hcp
    go_enter Tryd.func29, Tryd.ntmps29
    go_wp2_with fail
    refine hs1.mono ?_
    rintro e w1 ⟨rfl, rfl⟩
    go_wp2_with fail
    refine hs2.mono ?_
    rintro e w2 ⟨rfl, rfl⟩
    go_wp2_with fail
    go_ret2
    exact ⟨.inl ⟨HE.out, rfl⟩, Below.refl _ _⟩
end Go.Proofs.YtdhkhbejedndoaaDoor.H
