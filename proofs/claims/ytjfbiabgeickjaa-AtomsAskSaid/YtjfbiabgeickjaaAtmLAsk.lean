/- AtomsAsk: walked. -/
import Derived.Test.YtjfbiabgeickjaaAtmZ
import Derived.Deep.LoopGhost
import Derived.BigQuiet
namespace Go.Proofs.Ytjfbiabgeickjaa.H
open Go.BigFrame Go.RowKit Go.Proofs.Ytjfbiabgeickjaa.P Go.Proofs.Ytjfbiabgeickjaa.Open Go.Proofs.YtjfbiabgeickjaaW.PrintWords Go.Proofs.YtjfbiabgeickjaaW.PrintLast Go.Proofs.YtjfbiabgeickjaaW.PrintMore
set_option linter.unusedVariables false
set_option linter.unusedSimpArgs false
set_option maxRecDepth 20000 in
set_option maxHeartbeats 16000000 in
theorem AtomsAsk_any (A : Option Addr) (c : Nat) (l : List SA) (a k : Int) (w : World) (hr : Kd.C kA w A l.length l) (hc : l.length ≤ c) (hI : ∀ y ∈ l, isU32 y.f1.f0 ∧ isU32 y.f1.f1) (ha : isU32 a) (hk : (Lit.int .i64 k).wf = true) :
    Calls Try.prog 4 #[.slice A l.length c, .int .u32 a, .int .i64 k] w fun e w' => e = .returned (.bool true) ∧ Below w.heap.size w w' := by
  obtain ⟨ha0, ha1⟩ := ha.range
  clear ha hk
  have HR0 := Aside0.mk hr
  have HC0 := Aside0.mk hc
  have HI0 := Aside0.mk (show ∀ j : Nat, j < l.length → (0 ≤ (rdA l (j : Int)).f1.f0 ∧ (rdA l (j : Int)).f1.f0 ≤ 4294967295) ∧ 0 ≤ (rdA l (j : Int)).f1.f1 ∧ (rdA l (j : Int)).f1.f1 ≤ 4294967295 from fun j hj => by
    have hm : rdA l (j : Int) ∈ l := by unfold rdA; rw [Int.toNat_natCast, List.getD_eq_getElem?_getD, List.getElem?_eq_getElem hj]; exact List.getElem_mem hj
    exact ⟨(hI _ hm).1.range, (hI _ hm).2.range⟩)
  clear hr hc hI
  go_enter Try.func4, Try.ntmps4
  go_wp2_with fail
  refine (newTab_any w).mono ?_
  rintro e w1 ⟨⟨P0, rfl, h0⟩, hb⟩
  have HB1 := Aside0.mk hb
  have H0 := Aside0.mk h0
  clear hb h0
  have HH := Aside0.mk (show HeldAt (w1.alloc (.cells #[.pointer P0, .slice none 0 0] 40)) w1.heap.size newTab [] P0 (.slice none 0 0) from ⟨blk_new w1 _, H0.out.below ((Below.refl w1.heap.size w1).alloc (Nat.le_refl _) _), Kd.V_nil _ _ _ _ _⟩)
  have HB2 := Aside0.mk (HB1.out.alloc HB1.out.size (.cells #[.pointer P0, .slice none 0 0] 40))
  have HG := Aside0.mk HB1.out.size
  clear HB1 H0
  dsimp only
  repeat ((fail_if_success (show Code.wp _ (Code.seq (Code.region 2 _ _) _) _ _ _)); (first | go_values | go_skip | go_guarded | go_step | go_upon | go_back))
  generalize w1.heap.size = H at *
  generalize (w1.alloc (.cells #[.pointer P0, .slice none 0 0] 40)) = w2 at *
  go_cut [8] from 9 (fun _ w' => ∃ (m : Nat) (x : Tab) (L : List Rg) (P : Option Addr) (v : Value), Aside0 (m ≤ 60) ∧ Aside0 (Inv m x L) ∧ Aside0 (HeldAt w' H x L P v) ∧ Aside0 (Below w.heap.size w w'))
  case first =>
    go_wp2_with fail
    go_loopw [8] (fun u wr => ∃ (j : Nat) (x : Tab) (L : List Rg) (P : Option Addr) (v : Value), u = .int .i64 j ∧ j ≤ 60 ∧ Aside0 (Inv j x L) ∧ Aside0 (HeldAt wr H x L P v) ∧ Aside0 (Below w.heap.size w wr)) (fun u _ => 60 - (intOf u).toNat)
    case atStart => exact ⟨0, newTab, [], P0, _, rfl, Nat.zero_le _, ⟨inv_new⟩, HH, HB2⟩
    case round =>
      clear HH HB2
      obtain ⟨j, x, L, P, v, rfl, hj, HI, HH, HB⟩ := hrel
      by_cases h1 : j < l.length
      · by_cases h2 : j < 60
        · skip
          have h1' : (j : Int) < (l.length : Int) := by omega
          have h2' : (j : Int) < 60 := by omega
          have hw := wr1 j (by omega)
          obtain ⟨ad, rfl, a0, a1, a2⟩ := atA (Kd.C_below HR0.out HB.out) j (by omega) (by omega)
          simp only [Int.toNat_natCast] at a0 a1 a2
          obtain ⟨⟨i0, i1⟩, i2, i3⟩ := HI0.out j h1
          have HRD := Aside0.mk (fun W (hW : Below w.heap.size w W) => atA (Kd.C_below HR0.out hW) j (by omega) (by omega))
          simp only [Int.toNat_natCast] at HRD
          generalize rdA l (j : Int) = y at *
          clear h1 h2
          go_wp2_with fail
          refine (do_any H y.f0 y.f1.f0 y.f1.f1 HI.out (by omega) i0 i1 i2 i3 P v wr HH.out).mono ?_
          rintro e w3 ⟨rfl, ⟨P3, v3, hh⟩, hb⟩
          have HI3 := Aside0.mk (HI.out.does (by omega) y.f0 y.f1.f0 y.f1.f1 i0 i1 i2 i3)
          have HH3 := Aside0.mk hh
          have HB3 := Aside0.mk (hb.below HB.out HG.out HB.out.size)
          clear hb a0 a1 a2 HI HH HB i0 i1 i2 i3
          clear hh
          go_wp2_with fail
          go_roundw
          case rel => exact ⟨j + 1, _, _, _, _, by first | go_num | rw [hw], by omega, HI3, HH3, HB3⟩
          case measure => (try rw [hw]); simp only [intOf]; omega
        · have h1' : (j : Int) < (l.length : Int) := by omega
          have h2' : ¬ (j : Int) < 60 := by omega
          go_wp2_with fail
          go_meet
          case rel => exact ⟨j, x, L, P, v, ⟨hj⟩, HI, HH, HB⟩
      · have h1' : ¬ (j : Int) < (l.length : Int) := by omega
        go_wp2_with fail
        go_meet
        case rel => exact ⟨j, x, L, P, v, ⟨hj⟩, HI, HH, HB⟩
  case rest =>
    obtain ⟨m, x, L, P, v, HM, HI, HH, HB⟩ := hcut
    clear HG
    obtain ⟨A3, c3, rfl, hl3, hc3⟩ := HH.out.reads
    have HL3 := Aside0.mk hl3
    have HC3 := Aside0.mk hc3
    have hmm := HM.out
    have hm4 : m ≤ 400 := by omega
    have d0 := blk_cell HH.out.blk 0
    have d1 := blk_cell HH.out.blk 1
    have CA := ref_atoms HI.out hm4 A3 c3 wc HC3.out HL3.out
    have HML := Aside0.mk (HI.out.atoms_len hm4)
    have HKL := Aside0.mk (show (atomsK (keysT x.b)).length = (keysT x.b).length from atomsK_len _)
    have CO := Aside0.mk (of_inv HI.out hm4 P a ha0 ha1)
    have COR := Aside0.mk (fun a0 A n W h1 h2 => ref_of (atomsK (keysT x.b)) (by have := HML.out; omega) a0 A n W h1 h2)
    have CW := Aside0.mk (fun f t h0 h1 h2 h3 W hW => within_inv HI.out hm4 P f t h0 h1 h2 h3 W hW)
    have CC := Aside0.mk (fun f t W hW => ref_count f t L (by have := (HI.out.lim hm4).2.2.2.2.2; omega) A3 c3 W hW HL3.out)
    have CAT := Aside0.mk (fun W hW => atom_any P x k W (.inl hW) (HI.out.lim hm4).1 HI.out.range (keys_up HI.out.b.1))
    have HAR := Aside0.mk (show (atomR (keysT x.b) k).2 = (decide (0 ≤ k) && decide (k < ((atomsK (keysT x.b)).length : Int))) from by
      rw [HKL.out]; unfold atomR
      by_cases c1 : 0 ≤ k ∧ k < (keysT x.b).length
      · rw [if_pos c1]; simp [c1.1, c1.2]
      · rw [if_neg c1]
        by_cases c2 : 0 ≤ k
        · have c3 : ¬ k < ((keysT x.b).length : Int) := fun h => c1 ⟨c2, h⟩
          simp [c2, c3]
        · simp [c2])
    have HCN := Aside0.mk (fun f t => cnt_iff f t L)
    generalize atomR (keysT x.b) k = ar at *
    obtain ⟨⟨r0, r1⟩, rb⟩ := ar
    simp only [] at CAT HAR
    generalize atomsK (keysT x.b) = M at *
    clear hl3 hc3 HKL
    go_wp2_with fail
    refine CA.mono ?_
    rintro e w3 ⟨⟨A4, c4, rfl, q4, r4⟩, hb⟩
    have HH3 := Aside0.mk (HH.out.below hb)
    have HB3 := Aside0.mk (HB.out.trans (hb.mono HB.out.size))
    have HC4 := Aside0.mk r4
    have HL4 := Aside0.mk q4
    have HCL := Aside0.mk (Kd.C_below HC3.out hb)
    clear CA hb q4 r4 HH HB HC3 d0 d1
    have d0 := blk_cell HH3.out.blk 0
    go_wp2_with fail
    refine (CO.out w3 HH3.out.tab).mono ?_
    rintro e w4 ⟨rfl, hb⟩
    have HH4 := Aside0.mk (HH3.out.below hb)
    have HB4 := Aside0.mk (HB3.out.trans (hb.mono HB3.out.size))
    have HC44 := Aside0.mk (Kd.C_below HC4.out hb)
    have HCL4 := Aside0.mk (Kd.C_below HCL.out hb)
    clear CO hb HH3 HB3 HC4 HCL d0
    go_wp2_with fail
    refine (COR.out a A4 c4 w4 HC44.out HL4.out).mono ?_
    rintro e w5 ⟨rfl, hb⟩
    have HH5 := Aside0.mk (HH4.out.below hb)
    have HB5 := Aside0.mk (HB4.out.trans (hb.mono HB4.out.size))
    have HC5 := Aside0.mk (Kd.C_below HC44.out hb)
    have HCL5 := Aside0.mk (Kd.C_below HCL4.out hb)
    clear hb HH4 HB4 HC44 HCL4
    have HOA := Aside0.mk (fun a0 => ofA_le a0 M)
    generalize ofA a M = oa at *
    dsimp only
    repeat ((fail_if_success (show Code.wp _ (Code.seq (Code.region 9 _ _) _) _ _ _)); (first | go_values | go_skip | go_guarded | go_step | go_upon | go_back))
    have HW0 := Aside0.mk (Below.refl w5.heap.size w5)
    go_cut [10] from 11 (fun _ w' => Aside0 (Below w5.heap.size w5 w'))
    case first =>
      go_wp2_with fail
      go_loopw [10] (fun u wr => ∃ (j : Nat), u = .int .i64 j ∧ j ≤ 60 ∧ Aside0 (Below w5.heap.size w5 wr)) (fun u _ => 60 - (intOf u).toNat)
      case atStart => exact ⟨0, rfl, Nat.zero_le _, HW0⟩
      case round =>
        clear HW0
        obtain ⟨j, rfl, hj, HN⟩ := hrel
        by_cases h1 : j < l.length
        · by_cases h2 : j < 60
          · have h1' : (j : Int) < (l.length : Int) := by omega
            have h2' : (j : Int) < 60 := by omega
            have hw := wr1 j (by omega)
            obtain ⟨ad, rfl, a0, a1, a2⟩ := atA (Kd.C_below HR0.out (HB5.out.trans (HN.out.mono HB5.out.size))) j (by omega) (by omega)
            simp only [Int.toNat_natCast] at a0 a1 a2
            obtain ⟨⟨i0, i1⟩, i2, i3⟩ := HI0.out j h1
            generalize rdA l (j : Int) = y at *
            clear h1 h2
            have hbn : Below wr.heap.size wr (wr.alloc (.cells #[.int .u32 y.f1.f0, .int .u32 y.f1.f1] 30)) := (Below.refl wr.heap.size wr).alloc (Nat.le_refl _) _
            have HN6 := Aside0.mk (HN.out.trans (hbn.mono HN.out.size))
            have HX6 := Aside0.mk (blk_new wr (.cells #[.int .u32 y.f1.f0, .int .u32 y.f1.f1] 30))
            clear hbn
            have HII := Aside0.mk (And.intro (And.intro i0 i1) (And.intro i2 i3))
            go_wp2_with fail
            generalize (wr.alloc (.cells #[.int .u32 y.f1.f0, .int .u32 y.f1.f1] 30)) = w6 at *
            generalize wr.heap.size = bx at *
            have HH6 := Aside0.mk (HH5.out.below HN6.out)
            have hc : w6.cell? ⟨H, 0, none⟩ = some (.pointer P) ∧ w6.cell? ⟨bx, 0, none⟩ = some (.int .u32 y.f1.f0) ∧ w6.cell? ⟨bx, 1, none⟩ = some (.int .u32 y.f1.f1) := ⟨blk_cell HH6.out.blk 0, blk_cell HX6.out 0, blk_cell HX6.out 1⟩
            have HD := Aside0.mk (below_drew (Below.refl w6.heap.size w6))
            have CW1 := Aside0.mk (CW.out y.f1.f0 y.f1.f1 HII.out.1.1 HII.out.1.2 HII.out.2.1 HII.out.2.2 w6.drew (HH6.out.below HD.out).tab)
            have HCI := Aside0.mk (HCN.out y.f1.f0 y.f1.f1)
            have CC1 := Aside0.mk (fun W hW => CC.out y.f1.f0 y.f1.f1 W hW)
            generalize cntL y.f1.f0 y.f1.f1 L = nn at *
            clear a0 a1 a2 i0 i1 i2 i3
            cases hhr : hasR y.f1.f0 y.f1.f1 L with
            | true =>
              rw [hhr, if_pos rfl] at CW1
              have HNP := Aside0.mk (show (0 : Int) < (nn : Int) from by have := HCI.out.1 hhr; omega)
              clear hhr
              go_region_held3 (fun w' => w'.cell? ⟨H, 0, none⟩ = some (.pointer P) ∧ w'.cell? ⟨bx, 0, none⟩ = some (.int .u32 y.f1.f0) ∧ w'.cell? ⟨bx, 1, none⟩ = some (.int .u32 y.f1.f1)) (first | assumption | go_keep) (first
                | (go_at_call 19; refine CW1.out.mono ?_; rintro e w7 ⟨rfl, hb⟩; have HN7 := Aside0.mk (HD.out.trans (hb.mono HD.out.size)); have HH7 := Aside0.mk (HH6.out.below HN7.out); have HX7 := Aside0.mk (blk_below HX6.out HN7.out); have HB7 := Aside0.mk (HN6.out.trans (HN7.out.mono HN6.out.size)); have K1 : w7.cell? ⟨H, 0, none⟩ = some (.pointer P) ∧ w7.cell? ⟨bx, 0, none⟩ = some (.int .u32 y.f1.f0) ∧ w7.cell? ⟨bx, 1, none⟩ = some (.int .u32 y.f1.f1) := ⟨blk_cell HH7.out.blk 0, blk_cell HX7.out 0, blk_cell HX7.out 1⟩; clear hb))
              clear hc HD CW1 K1 HN7
              have hc : w7.cell? ⟨H, 1, none⟩ = some (.slice A3 L.length c3) ∧ w7.cell? ⟨bx, 0, none⟩ = some (.int .u32 y.f1.f0) ∧ w7.cell? ⟨bx, 1, none⟩ = some (.int .u32 y.f1.f1) := ⟨blk_cell HH7.out.blk 1, blk_cell HX7.out 0, blk_cell HX7.out 1⟩
              have HD := Aside0.mk (below_drew (Below.refl w7.heap.size w7))
              have CC2 := Aside0.mk (CC1.out w7.drew (Kd.C_below HCL5.out (HB7.out.trans (HD.out.mono HB7.out.size))))
              have hnp := HNP.out
              have hnn : 0 < nn := by omega
              have hnd1 : decide ((0 : Int) < (nn : Int)) = true := decide_eq_true hnp
              have hnd2 : decide (0 < nn) = true := decide_eq_true hnn
              go_wp2_with fail
              refine wp_region_held_drew (S := (fun w' => w'.cell? ⟨H, 1, none⟩ = some (.slice A3 L.length c3) ∧ w'.cell? ⟨bx, 0, none⟩ = some (.int .u32 y.f1.f0) ∧ w'.cell? ⟨bx, 1, none⟩ = some (.int .u32 y.f1.f1))) (by kernel_rfl) ?hS0 (fun hHeld => ?_)
              case hS0 => (first | assumption | go_keep)
              refine held_take 0 (some 76) (v := ?v0) rfl rfl (by kernel_rfl) (by kernel_rfl) (by kernel_rfl) (fun _ _ _ h => h) (by rfl) ?y0 (by assumption) ?_
              case y0 => ((intro w hSw); (try dsimp only at hSw); go_simp <;> (with_reducible rfl))
              try simp only [Act.put, List.setIfInBounds_toArray, List.set_cons_zero, List.set_cons_succ]
              refine held_take 1 (some 77) (v := ?v1) rfl rfl (by kernel_rfl) (by kernel_rfl) (by kernel_rfl) (fun _ _ _ h => h) (by rfl) ?y1 (by assumption) ?_
              case y1 => ((intro w hSw); (try dsimp only at hSw); go_simp <;> (with_reducible rfl))
              try simp only [Act.put, List.setIfInBounds_toArray, List.set_cons_zero, List.set_cons_succ]
              refine held_take 2 (some 78) (v := ?v2) rfl rfl (by kernel_rfl) (by kernel_rfl) (by kernel_rfl) (fun _ _ _ h => h) (by rfl) ?y2 (by assumption) ?_
              case y2 => ((intro w hSw); (try dsimp only at hSw); go_simp <;> (with_reducible rfl))
              try simp only [Act.put, List.setIfInBounds_toArray, List.set_cons_zero, List.set_cons_succ]
              refine held_take 3 (some 79) (v := ?v3) rfl rfl (by kernel_rfl) (by kernel_rfl) (by kernel_rfl) (fun _ _ _ h => h) (by rfl) ?y3 (by assumption) ?_
              case y3 => ((intro w hSw); (try dsimp only at hSw); go_simp <;> (with_reducible rfl))
              try simp only [Act.put, List.setIfInBounds_toArray, List.set_cons_zero, List.set_cons_succ]
              refine held_take 4 (some 80) (v := ?v4) rfl rfl (by kernel_rfl) (by kernel_rfl) (by kernel_rfl) (fun _ _ _ h => h) (by rfl) ?y4 (by assumption) ?_
              case y4 => ((intro w hSw); (try dsimp only at hSw); go_simp <;> (with_reducible rfl))
              try simp only [Act.put, List.setIfInBounds_toArray, List.set_cons_zero, List.set_cons_succ]
              refine held_take 5 (some 81) (v := ?v5) rfl rfl (by kernel_rfl) (by kernel_rfl) (by kernel_rfl) (fun _ _ _ h => h) (by rfl) ?y5 (by assumption) ?_
              case y5 => ((intro w hSw); (try dsimp only at hSw); go_simp <;> (with_reducible rfl))
              try simp only [Act.put, List.setIfInBounds_toArray, List.set_cons_zero, List.set_cons_succ]
              refine wpAnyH_ready (rs := [6]) (by kernel_rfl) (by simp) ?_
              refine AllReadyH.cons rfl (fun K hK => ?_) AllReadyH.nil
              go_simp
              (go_at_call 20; refine CC2.out.mono ?_; rintro e w8 ⟨rfl, hb⟩; have HN8 := Aside0.mk (HD.out.trans (hb.mono HD.out.size)); have HX8 := Aside0.mk (blk_below HX7.out HN8.out); have HB8 := Aside0.mk (HB7.out.trans (HN8.out.mono HB7.out.size)); have HH8 := Aside0.mk (HH7.out.below HN8.out); have K1 : w8.cell? ⟨H, 1, none⟩ = some (.slice A3 L.length c3) ∧ w8.cell? ⟨bx, 0, none⟩ = some (.int .u32 y.f1.f0) ∧ w8.cell? ⟨bx, 1, none⟩ = some (.int .u32 y.f1.f1) := ⟨blk_cell HH8.out.blk 1, blk_cell HX8.out 0, blk_cell HX8.out 1⟩; clear hb)
              refine hK.out _ _ ?hS7 (fun hHeld => ?_)
              case hS7 => (first | assumption | go_keep)
              clear hK K
              try simp only [Act.put, List.setIfInBounds_toArray, List.set_cons_zero, List.set_cons_succ]
              refine held_take 7 (some 83) (v := ?v7) rfl rfl (by kernel_rfl) (by kernel_rfl) (by kernel_rfl) (fun _ _ _ h => h) (by rfl) ?y7 (by assumption) ?_
              case y7 => ((intro w hSw); (try dsimp only at hSw); go_simp <;> (with_reducible rfl))
              try simp only [Act.put, List.setIfInBounds_toArray, List.set_cons_zero, List.set_cons_succ]
              refine held_take 8 (some 84) (v := ?v8) rfl rfl (by kernel_rfl) (by kernel_rfl) (by kernel_rfl) (fun _ _ _ h => h) (by rfl) ?y8 (by assumption) ?_
              case y8 => ((intro w hSw); (try dsimp only at hSw); go_simp <;> (with_reducible rfl))
              try simp only [Act.put, List.setIfInBounds_toArray, List.set_cons_zero, List.set_cons_succ]
              refine held_take 9 (some 85) (v := ?v9) rfl rfl (by kernel_rfl) (by kernel_rfl) (by kernel_rfl) (fun _ _ _ h => h) (by rfl) ?y9 (by assumption) ?_
              case y9 => ((intro w hSw); (try dsimp only at hSw); go_simp <;> (with_reducible rfl))
              try simp only [Act.put, List.setIfInBounds_toArray, List.set_cons_zero, List.set_cons_succ]
              refine held_take 10 (some 86) (v := ?v10) rfl rfl (by kernel_rfl) (by kernel_rfl) (by kernel_rfl) (fun _ _ _ h => h) (by rfl) ?y10 (by assumption) ?_
              case y10 => ((intro w hSw); (try dsimp only at hSw); go_simp <;> (with_reducible rfl))
              try simp only [Act.put, List.setIfInBounds_toArray, List.set_cons_zero, List.set_cons_succ]
              refine held_take 11 (some 87) (v := ?v11) rfl rfl (by kernel_rfl) (by kernel_rfl) (by kernel_rfl) (fun _ _ _ h => h) (by rfl) ?y11 (by assumption) ?_
              case y11 => ((intro w hSw); (try dsimp only at hSw); go_simp <;> (with_reducible rfl))
              try simp only [Act.put, List.setIfInBounds_toArray, List.set_cons_zero, List.set_cons_succ]
              refine held_take 12 (some 88) (v := ?v12) rfl rfl (by kernel_rfl) (by kernel_rfl) (by kernel_rfl) (fun _ _ _ h => h) (by rfl) ?y12 (by assumption) ?_
              case y12 => ((intro w hSw); (try dsimp only at hSw); go_simp <;> (with_reducible rfl))
              try simp only [Act.put, List.setIfInBounds_toArray, List.set_cons_zero, List.set_cons_succ]
              refine held_skip 13 (some 89) rfl rfl (by kernel_rfl) (by kernel_rfl) (by kernel_rfl) (fun _ _ _ h => h) (by rfl) (by assumption) ?_
              try simp only [Act.put, List.setIfInBounds_toArray, List.set_cons_zero, List.set_cons_succ]
              refine held_skip 14 (some 90) rfl rfl (by kernel_rfl) (by kernel_rfl) (by kernel_rfl) (fun _ _ _ h => h) (by rfl) (by assumption) ?_
              try simp only [Act.put, List.setIfInBounds_toArray, List.set_cons_zero, List.set_cons_succ]
              refine held_skip 15 (some 91) rfl rfl (by kernel_rfl) (by kernel_rfl) (by kernel_rfl) (fun _ _ _ h => h) (by rfl) (by assumption) ?_
              try simp only [Act.put, List.setIfInBounds_toArray, List.set_cons_zero, List.set_cons_succ]
              refine held_skip 16 (some 92) rfl rfl (by kernel_rfl) (by kernel_rfl) (by kernel_rfl) (fun _ _ _ h => h) (by rfl) (by assumption) ?_
              try simp only [Act.put, List.setIfInBounds_toArray, List.set_cons_zero, List.set_cons_succ]
              refine held_skip 17 (some 93) rfl rfl (by kernel_rfl) (by kernel_rfl) (by kernel_rfl) (fun _ _ _ h => h) (by rfl) (by assumption) ?_
              try simp only [Act.put, List.setIfInBounds_toArray, List.set_cons_zero, List.set_cons_succ]
              refine held_skip 18 (some 94) rfl rfl (by kernel_rfl) (by kernel_rfl) (by kernel_rfl) (fun _ _ _ h => h) (by rfl) (by assumption) ?_
              try simp only [Act.put, List.setIfInBounds_toArray, List.set_cons_zero, List.set_cons_succ]
              refine held_take 19 (some 95) (v := ?v19) rfl rfl (by kernel_rfl) (by kernel_rfl) (by kernel_rfl) (fun _ _ _ h => h) (by rfl) ?y19 (by assumption) ?_
              case y19 => ((intro w hSw); (try dsimp only at hSw); go_simp <;> (with_reducible rfl))
              try simp only [Act.put, List.setIfInBounds_toArray, List.set_cons_zero, List.set_cons_succ]
              refine held_take 20 (some 96) (v := ?v20) rfl rfl (by kernel_rfl) (by kernel_rfl) (by kernel_rfl) (fun _ _ _ h => h) (by rfl) ?y20 (by assumption) ?_
              case y20 => ((intro w hSw); (try dsimp only at hSw); go_simp <;> (with_reducible rfl))
              try simp only [Act.put, List.setIfInBounds_toArray, List.set_cons_zero, List.set_cons_succ]
              refine wpAnyH_done (by kernel_rfl) ?_ _
              clear hc HD CC2 K1
              have x0 := blk_cell HX8.out 0
              have x1 := blk_cell HX8.out 1
              have HN9 := Aside0.mk (show ∀ W, Below w8.heap.size w8 W → Kd.C kR W A4 M.length M from fun W hW => Kd.C_below HC5.out (HB8.out.trans (hW.mono HB8.out.size)))
              go_wp2_with fail
              refine (COR.out y.f1.f0 A4 c4 _ (HN9.out _ (Below.refl _ _)) HL4.out).mono ?_
              rintro e w9 ⟨rfl, hb⟩
              have HN10 := Aside0.mk hb
              have x1 := blk_cell (blk_below HX8.out hb) 1
              clear hb
              go_wp2_with fail
              refine (COR.out y.f1.f1 A4 c4 _ (HN9.out _ HN10.out) HL4.out).mono ?_
              rintro e w10 ⟨rfl, hb⟩
              have HB10 := Aside0.mk (HB8.out.trans ((HN10.out.trans (hb.mono HN10.out.size)).mono HB8.out.size))
              clear hb
              have hqq : wrap64 ((ofA y.f1.f1 M : Nat) + 1 : Int) = ((ofA y.f1.f1 M : Nat) + 1 : Int) := by have := HOA.out y.f1.f1; have := HML.out; unfold wrap64; omega
              go_wp2_with fail
              go_roundw
              case rel => exact ⟨j + 1, by first | go_num | rw [hw], by omega, HB10⟩
              case measure => (try rw [hw]); simp only [intOf]; omega
            | false =>
              rw [hhr, if_neg Bool.false_ne_true] at CW1
              have HNP := Aside0.mk (show nn = 0 from by
                rcases Nat.eq_zero_or_pos nn with h | h
                · exact h
                · have := HCI.out.2 (by omega); rw [hhr] at this; cases this)
              clear hhr
              go_region_held3 (fun w' => w'.cell? ⟨H, 0, none⟩ = some (.pointer P) ∧ w'.cell? ⟨bx, 0, none⟩ = some (.int .u32 y.f1.f0) ∧ w'.cell? ⟨bx, 1, none⟩ = some (.int .u32 y.f1.f1)) (first | assumption | go_keep) (first
                | (go_at_call 19; refine CW1.out.mono ?_; rintro e w7 ⟨rfl, hb⟩; have HN7 := Aside0.mk (HD.out.trans (hb.mono HD.out.size)); have HH7 := Aside0.mk (HH6.out.below HN7.out); have HX7 := Aside0.mk (blk_below HX6.out HN7.out); have HB7 := Aside0.mk (HN6.out.trans (HN7.out.mono HN6.out.size)); have K1 : w7.cell? ⟨H, 0, none⟩ = some (.pointer P) ∧ w7.cell? ⟨bx, 0, none⟩ = some (.int .u32 y.f1.f0) ∧ w7.cell? ⟨bx, 1, none⟩ = some (.int .u32 y.f1.f1) := ⟨blk_cell HH7.out.blk 0, blk_cell HX7.out 0, blk_cell HX7.out 1⟩; clear hb))
              clear hc HD CW1 K1 HN7
              have hc : w7.cell? ⟨H, 1, none⟩ = some (.slice A3 L.length c3) ∧ w7.cell? ⟨bx, 0, none⟩ = some (.int .u32 y.f1.f0) ∧ w7.cell? ⟨bx, 1, none⟩ = some (.int .u32 y.f1.f1) := ⟨blk_cell HH7.out.blk 1, blk_cell HX7.out 0, blk_cell HX7.out 1⟩
              have HD := Aside0.mk (below_drew (Below.refl w7.heap.size w7))
              have CC2 := Aside0.mk (CC1.out w7.drew (Kd.C_below HCL5.out (HB7.out.trans (HD.out.mono HB7.out.size))))
              obtain rfl := HNP.out
              go_wp2_with fail
              refine wp_region_held_drew (S := (fun w' => w'.cell? ⟨H, 1, none⟩ = some (.slice A3 L.length c3) ∧ w'.cell? ⟨bx, 0, none⟩ = some (.int .u32 y.f1.f0) ∧ w'.cell? ⟨bx, 1, none⟩ = some (.int .u32 y.f1.f1))) (by kernel_rfl) ?hSf0 (fun hHeld => ?_)
              case hSf0 => (first | assumption | go_keep)
              refine held_take 0 (some 76) (v := ?vf0) rfl rfl (by kernel_rfl) (by kernel_rfl) (by kernel_rfl) (fun _ _ _ h => h) (by rfl) ?yf0 (by assumption) ?_
              case yf0 => ((intro w hSw); (try dsimp only at hSw); go_simp <;> (with_reducible rfl))
              try simp only [Act.put, List.setIfInBounds_toArray, List.set_cons_zero, List.set_cons_succ]
              refine held_take 1 (some 77) (v := ?vf1) rfl rfl (by kernel_rfl) (by kernel_rfl) (by kernel_rfl) (fun _ _ _ h => h) (by rfl) ?yf1 (by assumption) ?_
              case yf1 => ((intro w hSw); (try dsimp only at hSw); go_simp <;> (with_reducible rfl))
              try simp only [Act.put, List.setIfInBounds_toArray, List.set_cons_zero, List.set_cons_succ]
              refine held_take 2 (some 78) (v := ?vf2) rfl rfl (by kernel_rfl) (by kernel_rfl) (by kernel_rfl) (fun _ _ _ h => h) (by rfl) ?yf2 (by assumption) ?_
              case yf2 => ((intro w hSw); (try dsimp only at hSw); go_simp <;> (with_reducible rfl))
              try simp only [Act.put, List.setIfInBounds_toArray, List.set_cons_zero, List.set_cons_succ]
              refine held_take 3 (some 79) (v := ?vf3) rfl rfl (by kernel_rfl) (by kernel_rfl) (by kernel_rfl) (fun _ _ _ h => h) (by rfl) ?yf3 (by assumption) ?_
              case yf3 => ((intro w hSw); (try dsimp only at hSw); go_simp <;> (with_reducible rfl))
              try simp only [Act.put, List.setIfInBounds_toArray, List.set_cons_zero, List.set_cons_succ]
              refine held_take 4 (some 80) (v := ?vf4) rfl rfl (by kernel_rfl) (by kernel_rfl) (by kernel_rfl) (fun _ _ _ h => h) (by rfl) ?yf4 (by assumption) ?_
              case yf4 => ((intro w hSw); (try dsimp only at hSw); go_simp <;> (with_reducible rfl))
              try simp only [Act.put, List.setIfInBounds_toArray, List.set_cons_zero, List.set_cons_succ]
              refine held_take 5 (some 81) (v := ?vf5) rfl rfl (by kernel_rfl) (by kernel_rfl) (by kernel_rfl) (fun _ _ _ h => h) (by rfl) ?yf5 (by assumption) ?_
              case yf5 => ((intro w hSw); (try dsimp only at hSw); go_simp <;> (with_reducible rfl))
              try simp only [Act.put, List.setIfInBounds_toArray, List.set_cons_zero, List.set_cons_succ]
              refine wpAnyH_ready (rs := [6]) (by kernel_rfl) (by simp) ?_
              refine AllReadyH.cons rfl (fun K hK => ?_) AllReadyH.nil
              go_simp
              (go_at_call 20; refine CC2.out.mono ?_; rintro e w8 ⟨rfl, hb⟩; have HN8 := Aside0.mk (HD.out.trans (hb.mono HD.out.size)); have HX8 := Aside0.mk (blk_below HX7.out HN8.out); have HB8 := Aside0.mk (HB7.out.trans (HN8.out.mono HB7.out.size)); have HH8 := Aside0.mk (HH7.out.below HN8.out); have K1 : w8.cell? ⟨H, 1, none⟩ = some (.slice A3 L.length c3) ∧ w8.cell? ⟨bx, 0, none⟩ = some (.int .u32 y.f1.f0) ∧ w8.cell? ⟨bx, 1, none⟩ = some (.int .u32 y.f1.f1) := ⟨blk_cell HH8.out.blk 1, blk_cell HX8.out 0, blk_cell HX8.out 1⟩; clear hb)
              refine hK.out _ _ ?hSf7 (fun hHeld => ?_)
              case hSf7 => (first | assumption | go_keep)
              clear hK K
              try simp only [Act.put, List.setIfInBounds_toArray, List.set_cons_zero, List.set_cons_succ]
              refine held_take 7 (some 83) (v := ?vf7) rfl rfl (by kernel_rfl) (by kernel_rfl) (by kernel_rfl) (fun _ _ _ h => h) (by rfl) ?yf7 (by assumption) ?_
              case yf7 => ((intro w hSw); (try dsimp only at hSw); go_simp <;> (with_reducible rfl))
              try simp only [Act.put, List.setIfInBounds_toArray, List.set_cons_zero, List.set_cons_succ]
              refine held_take 8 (some 84) (v := ?vf8) rfl rfl (by kernel_rfl) (by kernel_rfl) (by kernel_rfl) (fun _ _ _ h => h) (by rfl) ?yf8 (by assumption) ?_
              case yf8 => ((intro w hSw); (try dsimp only at hSw); go_simp <;> (with_reducible rfl))
              try simp only [Act.put, List.setIfInBounds_toArray, List.set_cons_zero, List.set_cons_succ]
              refine held_take 9 (some 85) (v := ?vf9) rfl rfl (by kernel_rfl) (by kernel_rfl) (by kernel_rfl) (fun _ _ _ h => h) (by rfl) ?yf9 (by assumption) ?_
              case yf9 => ((intro w hSw); (try dsimp only at hSw); go_simp <;> (with_reducible rfl))
              try simp only [Act.put, List.setIfInBounds_toArray, List.set_cons_zero, List.set_cons_succ]
              refine held_take 10 (some 86) (v := ?vf10) rfl rfl (by kernel_rfl) (by kernel_rfl) (by kernel_rfl) (fun _ _ _ h => h) (by rfl) ?yf10 (by assumption) ?_
              case yf10 => ((intro w hSw); (try dsimp only at hSw); go_simp <;> (with_reducible rfl))
              try simp only [Act.put, List.setIfInBounds_toArray, List.set_cons_zero, List.set_cons_succ]
              refine held_take 11 (some 87) (v := ?vf11) rfl rfl (by kernel_rfl) (by kernel_rfl) (by kernel_rfl) (fun _ _ _ h => h) (by rfl) ?yf11 (by assumption) ?_
              case yf11 => ((intro w hSw); (try dsimp only at hSw); go_simp <;> (with_reducible rfl))
              try simp only [Act.put, List.setIfInBounds_toArray, List.set_cons_zero, List.set_cons_succ]
              refine held_take 12 (some 88) (v := ?vf12) rfl rfl (by kernel_rfl) (by kernel_rfl) (by kernel_rfl) (fun _ _ _ h => h) (by rfl) ?yf12 (by assumption) ?_
              case yf12 => ((intro w hSw); (try dsimp only at hSw); go_simp <;> (with_reducible rfl))
              try simp only [Act.put, List.setIfInBounds_toArray, List.set_cons_zero, List.set_cons_succ]
              refine held_take 13 (some 89) (v := ?vf13) rfl rfl (by kernel_rfl) (by kernel_rfl) (by kernel_rfl) (fun _ _ _ h => h) (by rfl) ?yf13 (by assumption) ?_
              case yf13 => ((intro w hSw); (try dsimp only at hSw); go_simp <;> (with_reducible rfl))
              try simp only [Act.put, List.setIfInBounds_toArray, List.set_cons_zero, List.set_cons_succ]
              refine held_take 14 (some 90) (v := ?vf14) rfl rfl (by kernel_rfl) (by kernel_rfl) (by kernel_rfl) (fun _ _ _ h => h) (by rfl) ?yf14 (by assumption) ?_
              case yf14 => ((intro w hSw); (try dsimp only at hSw); go_simp <;> (with_reducible rfl))
              try simp only [Act.put, List.setIfInBounds_toArray, List.set_cons_zero, List.set_cons_succ]
              refine held_take 15 (some 91) (v := ?vf15) rfl rfl (by kernel_rfl) (by kernel_rfl) (by kernel_rfl) (fun _ _ _ h => h) (by rfl) ?yf15 (by assumption) ?_
              case yf15 => ((intro w hSw); (try dsimp only at hSw); go_simp <;> (with_reducible rfl))
              try simp only [Act.put, List.setIfInBounds_toArray, List.set_cons_zero, List.set_cons_succ]
              refine held_take 16 (some 92) (v := ?vf16) rfl rfl (by kernel_rfl) (by kernel_rfl) (by kernel_rfl) (fun _ _ _ h => h) (by rfl) ?yf16 (by assumption) ?_
              case yf16 => ((intro w hSw); (try dsimp only at hSw); go_simp <;> (with_reducible rfl))
              try simp only [Act.put, List.setIfInBounds_toArray, List.set_cons_zero, List.set_cons_succ]
              refine held_take 17 (some 93) (v := ?vf17) rfl rfl (by kernel_rfl) (by kernel_rfl) (by kernel_rfl) (fun _ _ _ h => h) (by rfl) ?yf17 (by assumption) ?_
              case yf17 => ((intro w hSw); (try dsimp only at hSw); go_simp <;> (with_reducible rfl))
              try simp only [Act.put, List.setIfInBounds_toArray, List.set_cons_zero, List.set_cons_succ]
              refine held_take 18 (some 94) (v := ?vf18) rfl rfl (by kernel_rfl) (by kernel_rfl) (by kernel_rfl) (fun _ _ _ h => h) (by rfl) ?yf18 (by assumption) ?_
              case yf18 => ((intro w hSw); (try dsimp only at hSw); go_simp <;> (with_reducible rfl))
              try simp only [Act.put, List.setIfInBounds_toArray, List.set_cons_zero, List.set_cons_succ]
              refine held_take 19 (some 95) (v := ?vf19) rfl rfl (by kernel_rfl) (by kernel_rfl) (by kernel_rfl) (fun _ _ _ h => h) (by rfl) ?yf19 (by assumption) ?_
              case yf19 => ((intro w hSw); (try dsimp only at hSw); go_simp <;> (with_reducible rfl))
              try simp only [Act.put, List.setIfInBounds_toArray, List.set_cons_zero, List.set_cons_succ]
              refine held_take 20 (some 96) (v := ?vf20) rfl rfl (by kernel_rfl) (by kernel_rfl) (by kernel_rfl) (fun _ _ _ h => h) (by rfl) ?yf20 (by assumption) ?_
              case yf20 => ((intro w hSw); (try dsimp only at hSw); go_simp <;> (with_reducible rfl))
              try simp only [Act.put, List.setIfInBounds_toArray, List.set_cons_zero, List.set_cons_succ]
              refine wpAnyH_done (by kernel_rfl) ?_ _
              clear hc HD CC2 K1
              go_wp2_with fail
              go_roundw
              case rel => exact ⟨j + 1, by first | go_num | rw [hw], by omega, HB8⟩
              case measure => (try rw [hw]); simp only [intOf]; omega
          · have h1' : (j : Int) < (l.length : Int) := by omega
            have h2' : ¬ (j : Int) < 60 := by omega
            go_wp2_with fail
            go_meet
            case rel => exact HN
        · have h1' : ¬ (j : Int) < (l.length : Int) := by omega
          go_wp2_with fail
          go_meet
          case rel => exact HN
    case rest =>
      have HN := hcut
      have HHc := Aside0.mk (HH5.out.below HN.out)
      have HBc := Aside0.mk (HB5.out.trans (HN.out.mono HB5.out.size))
      have d0 := blk_cell HHc.out.blk 0
      clear hcut
      go_wp2_with fail
      refine (CAT.out wc HHc.out.tab).mono ?_
      rintro e w6 ⟨rfl, hb⟩
      have hb2 := hb.alloc hb.size (.cells #[.int .u32 r0, .int .u32 r1] 30)
      have HB6 := Aside0.mk (HBc.out.trans (hb2.mono HBc.out.size))
      clear hb hb2
      go_wp2_with fail
      refine (alive_any _).mono ?_
      rintro e w7 ⟨rfl, hb⟩
      have HB7 := Aside0.mk (HB6.out.trans (hb.mono HB6.out.size))
      clear hb d0
      by_cases c1 : 0 ≤ k
      · by_cases c2 : k < (M.length : Int)
        · obtain rfl : rb = true := by rw [HAR.out]; simp [c1, c2]
          go_wp2_with fail
          go_ret
          exact ⟨rfl, HB7.out⟩
        · obtain rfl : rb = false := by rw [HAR.out]; simp [c2]
          have c2d : decide (k < (M.length : Int)) = false := decide_eq_false c2
          clear c2
          go_wp2_with fail
          go_ret
          exact ⟨rfl, HB7.out⟩
      · obtain rfl : rb = false := by rw [HAR.out]; simp [c1]
        have c1' : k < 0 := by omega
        go_wp2_with fail
        go_ret
        exact ⟨rfl, HB7.out⟩
end Go.Proofs.Ytjfbiabgeickjaa.H
