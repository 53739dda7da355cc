/- BitsAsk: walked. -/
import Derived.Test.YtdhkhbejedndoaaDoorBitD
namespace Go.Proofs.YtdhkhbejedndoaaDoor.H
open Go.RowKit Go.Proofs.YtdhkhbejedndoaaDoor.P Go.Proofs.YtdhkhbejedndoaaDoorW.PrintWords Go.Proofs.YtdhkhbejedndoaaDoorW.PrintLast Go.Proofs.YtdhkhbejedndoaaDoorW.PrintMore
set_option linter.unusedVariables false
set_option linter.unusedSimpArgs false
def isI64 (x : Int) : Prop := (Lit.int .i64 x).wf = true
theorem layL_len : ∀ (l : List Int) (m m' : List Bool), layL m l = some m' → m'.length = m.length
  | [], m, m', h => by cases h; rfl
  | i :: t, m, m', h => by
    rw [layL] at h
    split at h
    · rw [layL_len t _ _ h, List.length_set]
    · cases h
theorem ofM_len {size : Int} {l : List Int} {m : List Bool} (h : ofM size l = some m) : ((m.length : Nat) : Int) = size ∧ m.length ≤ 1024 := by
  unfold ofM at h
  split at h
  · cases h
  · have := layL_len l _ _ h
    rw [List.length_replicate] at this
    omega
def wantV (r : Option Nat) : Int := match r with
  | none => -1
  | some x => (x : Int)
def nxW (m : List Bool) (i k : Int) : Int := wantV (nextM m (if i ≤ k then k else i).toNat)
theorem nxW_end (m : List Bool) (i : Int) : nxW m i 0 = wantV (nextM m i.toNat) := by
  unfold nxW
  congr 2
  split <;> omega
theorem nxW_start (m : List Bool) (i : Int) : nxW m i ((m.length : Nat) : Int) = -1 := by
  unfold nxW
  rw [nextM_none]
  · rfl
  · intro p hp
    apply getD_out
    split at hp <;> omega
theorem nxW_hit (m : List Bool) (i : Int) (j : Nat) (h : i ≤ (j : Int)) (hb : m.getD j false = true) : nxW m i j = j := by
  unfold nxW
  rw [if_pos h, Int.toNat_natCast, nextM_some m j 0 hb (fun u hu => by omega)]
  rfl
theorem nxW_off (m : List Bool) (i : Int) (j : Nat) (hb : m.getD j false = false) : nxW m i j = nxW m i ((j : Int) + 1) := by
  unfold nxW
  by_cases h : i ≤ (j : Int)
  · rw [if_pos h, if_pos (by omega)]
    congr 1
    exact nextM_skip m _ _ (by omega) (fun p h1 h2 => by rw [show p = j by omega]; exact hb)
  · rw [if_neg h]
    congr 2
    split <;> omega
theorem nxW_low (m : List Bool) (i : Int) (j : Nat) (h : ¬ i ≤ (j : Int)) : nxW m i j = nxW m i ((j : Int) + 1) := by
  unfold nxW
  rw [if_neg h]
  congr 2
  split <;> omega
set_option maxRecDepth 20000 in
set_option maxHeartbeats 8000000 in
theorem bitsAsk_any (size : Int) (A : Option Addr) (c : Nat) (l : List Int) (i : Int) (w : World) (hsz : isI64 size) (hr : Kd.C (Kd.int .i64) w A l.length l) (hc : l.length ≤ c) (hI : ∀ y ∈ l, isI64 y) (hi : isI64 i) (hT : TabAt 0 Lib.deBruijn64tab w) :
    Calls Tryd.prog 3 #[.int .i64 size, .slice A l.length c, .int .i64 i] w fun e w' => e = .returned (.bool true) ∧ Below w.heap.size w w' := by
  have hll : l.length ≤ 9223372036854775807 := hr.2.1
  have hof := Of_int size A c l w hr hll
  have HT := Aside0.mk hT
  have HC := Aside0.mk hr
  have HCC := Aside0.mk hc
  obtain ⟨kO, hkO⟩ := (of_ev size l hll).rounds
  have HKO := Aside0.mk hkO
  obtain ⟨r, hr0⟩ : ∃ r, r = ofM size l := ⟨_, rfl⟩
  rw [← hr0] at hof hkO
  have HR := Aside0.mk hr0
  have HREF := Aside0.mk (fun (r1 : List Bool) (r2 : Int) (W : World) (hC : Kd.C (Kd.int .i64) W A l.length l) (h : waystoneref06_Of.f kO size l = some (r1, r2)) => waystoneref06_Of.calls kO size A c l r1 r2 W hC hc h)
  clear hsz hr hc hI hT hr0 hkO hi
  go_enter Tryd.func3, Tryd.ntmps3
  go_wp2_with fail
  refine hof.mono ?_
  rintro e w1 ⟨h, hb⟩
  have HB1 := Aside0.mk hb
  have HC1 := Aside0.mk (Kd.C_below HC.out hb)
  clear hof hb
  rcases h with ⟨h, rfl⟩ | ⟨m, gs, h, rfl, hs⟩
  · have hrf := HREF.out [] 61 w1 HC1.out (by rw [HKO.out, ← HR.out, h]; rfl)
    clear h hll
    go_wp2_with fail
    refine hrf.mono ?_
    rintro e w2 ⟨v0, rfl, hv, hb⟩
    have HB2 := Aside0.mk (HB1.out.trans (hb.mono HB1.out.size))
    clear hrf hb hv
    have hal := alive_any w2 (tab_below HT.out HB2.out)
    by_cases h200 : (200 : Int) < (l.length : Int)
    all_goals
      go_wp2_with fail
      refine hal.mono ?_
      rintro e w3 ⟨rfl, hb⟩
      have HB3 := Aside0.mk (HB2.out.trans (hb.mono HB2.out.size))
      go_wp2_with fail
      go_ret
      exact ⟨rfl, HB3.out⟩
  · have hrf := HREF.out m 0 w1 HC1.out (by rw [HKO.out, ← HR.out, h]; rfl)
    obtain ⟨hm1, hm2⟩ := ofM_len (HR.out.symm.trans h)
    have HS1 := Aside0.mk hs.to
    have HM2 := Aside0.mk hm2
    clear h hll hs hm1
    go_wp2_with fail
    refine hrf.mono ?_
    rintro e w2 ⟨v0, rfl, hv, hb⟩
    have HB2 := Aside0.mk (HB1.out.trans (hb.mono HB1.out.size))
    have HS2 := Aside0.mk (HS1.out.below hb)
    obtain ⟨A2, c2, rfl, hc2, hC2⟩ := Kd.R_reads hv
    have HC2 := Aside0.mk hC2
    clear hrf hb hv hc2 hC2 HS1
    by_cases h200 : (200 : Int) < (l.length : Int)
    · have hal := alive_any w2 (tab_below HT.out HB2.out)
      clear hm2
      go_wp2_with fail
      refine hal.mono ?_
      rintro e w3 ⟨rfl, hb⟩
      have HB3 := Aside0.mk (HB2.out.trans (hb.mono HB2.out.size))
      go_wp2_with fail
      go_ret
      exact ⟨rfl, HB3.out⟩
    · have HEND := Aside0.mk (nxW_end m i)
      have HST := Aside0.mk (nxW_start m i)
      go_wp2_with fail
      go_loopw [11, 12] (fun s11 s12 wr => ∃ (k : Int) (d : Nat), s12 = .int .i64 k ∧ -1 ≤ k ∧ k < (m.length : Int) ∧ s11 = .int .i64 (nxW m i (k + 1)) ∧ wr = w2.drewN d) (fun _ s _ => (intOf s + 1).toNat)
      case atStart => exact ⟨(m.length : Int) - 1, 0, rfl, by omega, by omega, by rw [show (m.length : Int) - 1 + 1 = ((m.length : Nat) : Int) by omega, HST.out], rfl⟩
      case round =>
        obtain ⟨k, d, rfl, hk1, hk2, rfl, rfl⟩ := hrel
        by_cases h0 : 0 ≤ k
        · obtain ⟨j, rfl⟩ : ∃ j : Nat, k = (j : Int) := ⟨k.toNat, by omega⟩
          by_cases hik : i ≤ (j : Int)
          · obtain ⟨ad, e1, a0⟩ := Kd.at_bool HC2.out (j : Int) (by omega) hk2
            cases e1
            rw [show rdOf false m (j : Int) = m.getD j false from by unfold rdOf; rw [Int.toNat_natCast], Int.toNat_natCast] at a0
            cases hb : m.getD j false with
            | true =>
              have HX := Aside0.mk (nxW_hit m i j hik hb)
              rw [hb] at a0
              generalize nxW m i ((j : Int) + 1) = x at *
              go_wp2_with fail
              go_roundw
              case rel => exact ⟨(j : Int) - 1, _, rfl, by omega, by omega, by rw [show (j : Int) - 1 + 1 = (j : Int) by omega, HX.out], rfl⟩
              case measure => simp [intOf]
            | false =>
              have HX := Aside0.mk (nxW_off m i j hb)
              rw [hb] at a0
              generalize nxW m i ((j : Int) + 1) = x at *
              go_wp2_with fail
              go_roundw
              case rel => exact ⟨(j : Int) - 1, _, rfl, by omega, by omega, by rw [show (j : Int) - 1 + 1 = (j : Int) by omega, HX.out], rfl⟩
              case measure => simp [intOf]
          · have HX := Aside0.mk (nxW_low m i j hik)
            generalize nxW m i ((j : Int) + 1) = x at *
            go_wp2_with fail
            go_roundw
            case rel => exact ⟨(j : Int) - 1, _, rfl, by omega, by omega, by rw [show (j : Int) - 1 + 1 = (j : Int) by omega, HX.out], rfl⟩
            case measure => simp [intOf]
        · obtain rfl : k = -1 := by omega
          rw [show (-1 : Int) + 1 = 0 from rfl, HEND.out]
          clear HEND HST
          have hnx := Next_any m _ i (w2.drewN d) (HS2.out.below (below_drewN (Below.refl _ _) d)) HM2.out (tab_below HT.out (below_drewN HB2.out d))
          obtain ⟨rx, hrx⟩ : ∃ rx, rx = nextM m i.toNat := ⟨_, rfl⟩
          rw [← hrx] at hnx
          rw [← hrx]
          have HX := Aside0.mk hrx
          clear hrx
          go_wp2_with fail
          refine hnx.mono ?_
          rintro e w3 ⟨rfl, hb⟩
          have HB3 := Aside0.mk ((below_drewN HB2.out d).trans (hb.mono (below_drewN HB2.out d).size))
          have HS3 := Aside0.mk ((HS2.out.below (below_drewN (Below.refl _ _) d)).below hb)
          have HC3 := Aside0.mk (Kd.C_below (Kd.C_below HC2.out (below_drewN (Below.refl _ _) d)) hb)
          clear hnx hb
          unfold nextV
          have hal := alive_any w3 (tab_below HT.out HB3.out)
          have HHAS := Aside0.mk (fun W (hb : Below w3.heap.size w3 W) => Has_any m _ i W (HS3.out.below hb) HM2.out)
          by_cases hi0 : 0 ≤ i
          · by_cases hil : i < (m.length : Int)
            · obtain ⟨ad, e1, a0⟩ := Kd.at_bool HC3.out i hi0 hil
              cases e1
              obtain ⟨j, rfl⟩ : ∃ j : Nat, i = (j : Int) := ⟨i.toNat, by omega⟩
              rw [show rdOf false m (j : Int) = m.getD j false from by unfold rdOf; rw [Int.toNat_natCast], Int.toNat_natCast] at a0
              rw [show hasM m (j : Int) = m.getD j false from by unfold hasM; rw [decide_eq_true hi0, decide_eq_true hil, Int.toNat_natCast]; rfl] at HHAS
              cases rx
              all_goals
                simp only [Option.getD_none, Option.getD_some, Option.isSome_none, Option.isSome_some, wantV]
                go_wp2_with fail
                refine hal.mono ?_
                rintro e w4 ⟨rfl, hb⟩
                have HB4 := Aside0.mk (HB3.out.trans (hb.mono HB3.out.size))
                have hhas := HHAS.out w4 hb
                have a1 := cb a0 hb
                clear hal hb a0
                go_wp2_with fail
                refine hhas.mono ?_
                rintro e w5 ⟨rfl, rfl⟩
                clear hhas
                go_wp2_with fail
                go_ret
                exact ⟨rfl, HB4.out⟩
            · rw [show hasM m i = false from by unfold hasM; rw [decide_eq_false hil, Bool.and_false]; rfl] at HHAS
              cases rx
              all_goals
                simp only [Option.getD_none, Option.getD_some, Option.isSome_none, Option.isSome_some, wantV]
                go_wp2_with fail
                refine hal.mono ?_
                rintro e w4 ⟨rfl, hb⟩
                have HB4 := Aside0.mk (HB3.out.trans (hb.mono HB3.out.size))
                have hhas := HHAS.out w4 hb
                clear hal hb
                go_wp2_with fail
                refine hhas.mono ?_
                rintro e w5 ⟨rfl, rfl⟩
                clear hhas
                go_wp2_with fail
                go_ret
                exact ⟨rfl, HB4.out⟩
          · rw [show hasM m i = false from by unfold hasM; rw [decide_eq_false hi0]; rfl] at HHAS
            cases rx
            all_goals
              simp only [Option.getD_none, Option.getD_some, Option.isSome_none, Option.isSome_some, wantV]
              go_wp2_with fail
              refine hal.mono ?_
              rintro e w4 ⟨rfl, hb⟩
              have HB4 := Aside0.mk (HB3.out.trans (hb.mono HB3.out.size))
              have hhas := HHAS.out w4 hb
              clear hal hb
              go_wp2_with fail
              refine hhas.mono ?_
              rintro e w5 ⟨rfl, rfl⟩
              clear hhas
              go_wp2_with fail
              go_ret
              exact ⟨rfl, HB4.out⟩
end Go.Proofs.YtdhkhbejedndoaaDoor.H
