/- places: walked. -/
import Derived.Test.YtncdeappiooccaaOrd1
import Derived.Test.YtncdeappiooccaaReg
namespace Go.Proofs.Ytncdeappiooccaa.H
open Go.RowKit Go.Proofs.Ytncdeappiooccaa.P Go.Proofs.YtncdeappiooccaaW.PrintWords Go.Proofs.YtncdeappiooccaaW.PrintLast Go.Proofs.YtncdeappiooccaaW.PrintMore
set_option linter.unusedVariables false
set_option linter.unusedSimpArgs false
/-- What places hands back. -/
def PlacesAt (h : List S47) (B : Nat) (w : World) (e : Ending) (w' : World) : Prop :=
  (rightH h = true ∧ ∃ g, e = .returned (.tuple #[.map (some g), .bool true]) ∧ MapAt w' g encE encN (idxL h) ∧ Below B w w') ∨ (rightH h = false ∧ e = .returned (.tuple #[.map none, .bool false]) ∧ Below B w w')
theorem look_e (g : Nat) (L : List (S47 × Int)) (k : S47) (W : World) (h : MapAt W g encE encN L) : (Instr.lookup 50 (.map (some g)) (.agg #[.int .i64 k.f0, .int .i64 k.f1]) false).run Try.prog W = .ok (.int .i64 ((look L k).getD 0)) W := by
  have hlk := run_look (encV := encN) keyE Try.underlying50 (zeroN W) h k false
  have e : ((look L k).map encN).getD (.int .i64 0) = .int .i64 ((look L k).getD 0) := by cases look L k <;> rfl
  rw [e] at hlk
  exact hlk
theorem not_right_at (h : List S47) (j : Nat) (hj : j < h.length) (hs : stepOk (h.take j) h[j] = false) : rightH h = false := by
  cases hr : rightH h with
  | false => rfl
  | true =>
    have h1 := rightH_take h (j + 1) hr
    rw [rightH_step h j hj, hs, Bool.and_false] at h1
    cases h1
set_option maxHeartbeats 4000000 in
theorem places_any (A : Option Addr) (c : Nat) (h : List S47) (w : World) (hr : Kd.C k47 w A h.length h) :
    Calls Try.prog 21 #[.slice A h.length c] w fun e w' => PlacesAt h w.heap.size w e w' := by
  have hmm := @run_makeMap Try.prog
  have hu47 := Try.underlying47
  have HR := Aside0.mk hr
  have hmax := Kd.C_max hr
  clear hr
  go_enter Try.func21, Try.ntmps21
  go_wp2_with fail
  have HM0 := Aside0.mk (MapAt.made w encE encN)
  have HB0 := Aside0.mk ((Below.refl w.heap.size w).alloc (Nat.le_refl _) (.map #[] 0))
  go_loopw [5, 12] (fun l c wr => ∃ j : Nat, j ≤ h.length ∧ c = .int .i64 j ∧ l = .int .i64 (cnt1 (h.take j) : Int) ∧ Aside0 (rightH (h.take j) = true) ∧ Aside0 (MapAt wr w.heap.size encE encN (idxL (h.take j))) ∧ Aside0 (Below w.heap.size w wr)) (fun _ c _ => h.length - (intOf c).toNat)
  case atStart => exact ⟨0, Nat.zero_le _, rfl, rfl, ⟨rfl⟩, HM0, HB0⟩
  case round =>
    clear HM0 HB0
    obtain ⟨j, hj, rfl, rfl, HRT, HM, HB⟩ := hrel
    by_cases hlt : j < h.length
    · obtain ⟨ad, e, a0, a1⟩ := at_T47 (Kd.C_below HR.out HB.out) (j : Int) (by omega) (by omega)
      cases e
      rw [Int.toNat_natCast] at a0 a1
      have hjl : (j : Int) < (h.length : Int) := by omega
      have hc := cnt1_le h j
      have HST := Aside0.mk (rightH_step h j hlt)
      have HNR := Aside0.mk (not_right_at h j hlt)
      have HCS := Aside0.mk (cnt1_step h j hlt)
      have HUP := Aside0.mk (fun hn => upd_idx (h.take j) (h[j]'hlt) hn)
      have hlen : (h.take j).length = j := by rw [List.length_take]; omega
      rw [hlen] at HUP
      have HTK := Aside0.mk (List.take_succ_eq_append_getElem hlt)
      have er : rd_T47 h (j : Int) = h[j] := by unfold rd_T47; rw [Int.toNat_natCast, List.getD_eq_getElem?_getD, List.getElem?_eq_getElem hlt]; rfl
      rw [er] at a0 a1
      obtain ⟨x, hx⟩ : ∃ x, h[j] = x := ⟨_, rfl⟩
      rw [hx] at a0 a1 HST HNR HCS HUP HTK
      clear er hx hlen
      obtain ⟨P, hP⟩ : ∃ P, h.take j = P := ⟨_, rfl⟩
      rw [hP] at HST HNR HCS HUP HTK hc HM HRT ⊢
      clear hP
      obtain ⟨x0, x1⟩ := x
      simp only [] at a0 a1
      have HMA := Aside0.mk (HM.out.alloc (.cells #[.int .i64 x0, .int .i64 x1] 47))
      have HBA := Aside0.mk (HB.out.alloc HB.out.size (.cells #[.int .i64 x0, .int .i64 x1] 47))
      have l1 := look_e _ _ ⟨wrap64 (x0 - 1), x1⟩ _ HMA.out
      have l2 := look_e _ _ ⟨x0, x1⟩ _ HMA.out
      have p1 := posE_pos P ⟨wrap64 (x0 - 1), x1⟩
      have p2 := posE_pos P ⟨x0, x1⟩
      unfold posE at p1 p2
      generalize (look (idxL P) ⟨wrap64 (x0 - 1), x1⟩).getD 0 = v1 at l1 p1
      generalize (look (idxL P) ⟨x0, x1⟩).getD 0 = v2 at l2 p2
      obtain ⟨n1, hn1⟩ : ∃ n1, cnt1 P = n1 := ⟨_, rfl⟩
      rw [hn1] at hc HCS ⊢
      have HN1 := Aside0.mk hn1
      clear hn1
      cases m2 : decide ((⟨x0, x1⟩ : S47) ∈ P) with
      | true =>
        rw [m2] at p2
        have M2 := Aside0.mk m2
        clear m2 p1
        go_wp2_with fail
        go_ret2
        exact .inr ⟨HNR.out (by simp [stepOk, M2.out]), rfl, HBA.out⟩
      | false =>
        rw [m2] at p2
        have M2 := Aside0.mk m2
        obtain ⟨w3, hu, hm3, hk3⟩ := run_upd (encV := encN) keyE Try.underlying50 _ HMA.out ⟨x0, x1⟩ ((j : Int) + 1)
        rw [HUP.out (by simpa using m2), ← HTK.out] at hm3
        have HM3 := Aside0.mk hm3
        have HB3 := Aside0.mk (hk3.below HBA.out (Nat.le_refl _))
        have hfar := hk3.blk (blk_new wr (.cells #[.int .i64 x0, .int .i64 x1] 47)) (by have := HM.out.lt; omega)
        simp only [encE, encN] at hu
        clear m2 hm3 hk3 hfar
        by_cases c1 : x0 = 1
        · have b1 : (x0 == 1) = true := by simpa using c1
          have b2 : (x0 == 2) = false := by rw [beq_eq_false_iff_ne]; omega
          have b3 : (x0 == 3) = false := by rw [beq_eq_false_iff_ne]; omega
          by_cases c2 : x1 = (n1 : Int) + 1
          · have b4 : (x1 == (n1 : Int) + 1) = true := by simpa using c2
            have C := Aside0.mk (And.intro b1 b4)
            have C1 := Aside0.mk c1
            clear c1 c2 p1
            have HOK := Aside0.mk (show stepOk P ⟨x0, x1⟩ = true from by simp [stepOk, M2.out, HN1.out, C.out.1, C.out.2])
            go_wp2_with fail
            go_roundw
            case rel => exact ⟨j + 1, by omega, by go_num, by rw [HCS.out]; rw [if_pos C1.out]; go_num, ⟨by rw [HST.out, HRT.out, HOK.out]; rfl⟩, HM3, HB3⟩
            case measure => simp [intOf]; omega
          · have b4 : (x1 == (n1 : Int) + 1) = false := by simpa using c2
            have C := Aside0.mk (And.intro b1 (And.intro b2 (And.intro b3 b4)))
            clear c1 c2 p1 hu
            go_wp2_with fail
            go_ret2
            exact .inr ⟨HNR.out (by simp [stepOk, M2.out, HN1.out, C.out.1, C.out.2.1, C.out.2.2.1, C.out.2.2.2]), rfl, HBA.out⟩
        · have b1 : (x0 == 1) = false := by simpa using c1
          cases b2 : (x0 == 2) with
          | true =>
            cases m1 : decide ((⟨wrap64 (x0 - 1), x1⟩ : S47) ∈ P) with
            | true =>
              rw [m1] at p1
              have C := Aside0.mk (And.intro b1 (And.intro b2 m1))
              have C1 := Aside0.mk c1
              clear c1 m1
              have HOK := Aside0.mk (show stepOk P ⟨x0, x1⟩ = true from by simp [stepOk, M2.out, C.out.1, C.out.2.1, C.out.2.2])
              go_wp2_with fail
              go_roundw
              case rel => exact ⟨j + 1, by omega, by go_num, by rw [HCS.out]; rw [if_neg C1.out]; rfl, ⟨by rw [HST.out, HRT.out, HOK.out]; rfl⟩, HM3, HB3⟩
              case measure => simp [intOf]; omega
            | false =>
              rw [m1] at p1
              have C := Aside0.mk (And.intro b1 (And.intro b2 m1))
              clear c1 m1 hu
              go_wp2_with fail
              go_ret2
              exact .inr ⟨HNR.out (by simp [stepOk, M2.out, C.out.1, C.out.2.1, C.out.2.2]), rfl, HBA.out⟩
          | false =>
            cases b3 : (x0 == 3) with
            | true =>
              cases m1 : decide ((⟨wrap64 (x0 - 1), x1⟩ : S47) ∈ P) with
              | true =>
                rw [m1] at p1
                have C := Aside0.mk (And.intro b1 (And.intro b2 (And.intro b3 m1)))
                have C1 := Aside0.mk c1
                clear c1 m1
                have HOK := Aside0.mk (show stepOk P ⟨x0, x1⟩ = true from by simp [stepOk, M2.out, C.out.1, C.out.2.1, C.out.2.2.1, C.out.2.2.2])
                go_wp2_with fail
                go_roundw
                case rel => exact ⟨j + 1, by omega, by go_num, by rw [HCS.out]; rw [if_neg C1.out]; rfl, ⟨by rw [HST.out, HRT.out, HOK.out]; rfl⟩, HM3, HB3⟩
                case measure => simp [intOf]; omega
              | false =>
                rw [m1] at p1
                have C := Aside0.mk (And.intro b1 (And.intro b2 (And.intro b3 m1)))
                clear c1 m1 hu
                go_wp2_with fail
                go_ret2
                exact .inr ⟨HNR.out (by simp [stepOk, M2.out, C.out.1, C.out.2.1, C.out.2.2.1, C.out.2.2.2]), rfl, HBA.out⟩
            | false =>
              have C := Aside0.mk (And.intro b1 (And.intro b2 b3))
              clear c1 p1 hu
              go_wp2_with fail
              go_ret2
              exact .inr ⟨HNR.out (by simp [stepOk, M2.out, C.out.1, C.out.2.1, C.out.2.2]), rfl, HBA.out⟩
    · obtain rfl : j = h.length := by omega
      rw [List.take_length] at HRT HM
      go_wp2_with fail
      go_ret2
      exact .inl ⟨HRT.out, _, rfl, HM.out, HB.out⟩
end Go.Proofs.Ytncdeappiooccaa.H
