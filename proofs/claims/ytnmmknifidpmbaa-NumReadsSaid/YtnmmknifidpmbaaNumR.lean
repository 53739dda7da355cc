import Derived.Test.YtnmmknifidpmbaaNumR3
import Derived.Test.YtnmmknifidpmbaaNumB
namespace Go.Proofs.Ytnmmknifidpmbaa.H
open Go.RowKit Go.Proofs.Ytnmmknifidpmbaa.P Go.Proofs.YtnmmknifidpmbaaW.PrintWords Go.Proofs.YtnmmknifidpmbaaW.PrintLast Go.Proofs.YtnmmknifidpmbaaW.PrintMore
set_option linter.unusedVariables false
set_option linter.unusedSimpArgs false

def ActOk2 (x : S26) : Prop := 0 ≤ x.f3 ∧ x.f3 < 18446744073709551616 ∧ -9223372036854775808 ≤ x.f1 ∧ x.f1 ≤ 9223372036854775807
theorem RM.grown {w w' : World} {g h d i : Nat} {bad : Bool} {b : List Int} {B : Option Addr} (hm : RM w g B d b i bad) (hg : w.grownBy w' (some h)) (hne : g ≠ h) (hC : Kd.C (Kd.int .u8) w' B b.length b) : RM w' g B d b i bad :=
  ⟨blk_grown hm.1 hg (by simpa using hne), hm.2.1, hm.2.2.1, hC⟩
/-- Both readers, at one place. -/
def Two (w : World) (g h : Nat) (B : Option Addr) (d : Nat) (b : List Int) (i : Nat) : Prop := RD w g (b.drop i) ∧ ∃ bad, RM w h B d b i bad

set_option maxHeartbeats 4000000 in
set_option maxRecDepth 20000 in
theorem numReads_walk (B d : _) (b : List Int) (A c : _) (l : List S26) (w : World) (hrb : Kd.C (Kd.int .u8) w B b.length b) (hcb : b.length ≤ d) (hb : bytes b)
    (hr : Kd.C k26 w A l.length l) (hc : l.length ≤ c) (hI : ∀ x ∈ l, ActOk2 x) :
    Calls Try.prog 4 #[.slice B b.length d, .slice A l.length c] w fun e w' => e = .returned (.bool true) ∧ Below w.heap.size w w' := by
  have HI := Aside0.mk hI
  have HBB := Aside0.mk hb
  have HR := Aside0.mk hr
  have HRB := Aside0.mk hrb
  have hm : ∃ m : Nat, m ≤ 60 ∧ m ≤ l.length ∧ (m < l.length → m = 60) := ⟨min l.length 60, by omega, by omega, by omega⟩
  obtain ⟨m, hm1, hm2, hm3⟩ := hm
  clear hI hb hr hrb
  by_cases h400 : b.length ≤ 400
  · have h4 : decide ((400 : Int) < b.length) = false := by simp; omega
    go_enter Try.func4, Try.ntmps4
    go_wp2_with fail
    refine (open_any B d b _ HRB.out hcb (by omega)).mono ?_
    rintro e w3 ⟨g, rfl, hrd, hg1, hg2, hb3⟩
    have HRD := Aside0.mk hrd
    have HG := Aside0.mk hg1
    have HG2 := Aside0.mk hg2
    have HB3 := Aside0.mk hb3
    have HRB3 := Aside0.mk (Kd.C_below HRB.out hb3)
    clear hrd hg1 hg2 hb3
    dsimp only
    repeat ((fail_if_success (show Code.wp _ (Code.seq (Code.region 5 _ _) _) _ _ _)); (first | go_values | go_skip | go_guarded | go_step | go_upon | go_back))
    have hb0 := (Below.refl w3.heap.size w3).alloc (Nat.le_refl _) (.cells #[.slice B b.length d, .int .i64 0, .bool false] 37)
    have HTW : Aside0 (Two (w3.alloc (.cells #[.slice B b.length d, .int .i64 0, .bool false] 37)) g w3.heap.size B d b 0) := ⟨by
      rw [Two, List.drop_zero]
      exact ⟨HRD.out.below hb0, false, blk_new _ _, Nat.zero_le _, hcb, Kd.C_below HRB3.out hb0⟩⟩
    have HB4 := Aside0.mk (HB3.out.trans (hb0.mono HB3.out.size))
    have HH := Aside0.mk HB3.out.size
    clear hb0
    generalize hw4 : w3.alloc (.cells #[.slice B b.length d, .int .i64 0, .bool false] 37) = w4 at *
    have HGH := Aside0.mk (Nat.ne_of_lt HG2.out)
    generalize w3.heap.size = h at *
    clear hw4
    go_cut [7] from 8 (fun _ w' => Aside0 (Below w.heap.size w w'))
    case first =>
      go_wp2
      go_loopw [7] (fun u wr => ∃ (i p : Nat), u = .int .i64 i ∧ i ≤ m ∧ Aside0 (Two wr g h B d b p) ∧ Aside0 (Below w.heap.size w wr)) (fun u _ => 100 - (intOf u).toNat)
      case atStart => exact ⟨0, 0, rfl, by omega, HTW, HB4⟩
      case round =>
        obtain ⟨i, p, rfl, hi, HT, HBi⟩ := hrel
        by_cases him : i < m
        · have h60 : decide ((i : Int) < 60) = true := by simp; omega
          have hil : decide ((i : Int) < l.length) = true := by simp; omega
          obtain ⟨ad, rfl, a0, a1, a2, a3, a4⟩ := at_T26 (Kd.C_below HR.out HBi.out) i (by omega) (by omega)
          simp only [Int.toNat_natCast] at a0 a1 a2 a3 a4
          have hok : ActOk2 (rd_T26 l i) := HI.out _ (by
            unfold rd_T26
            rw [Int.toNat_natCast, List.getD_eq_getElem?_getD, List.getElem?_eq_getElem (by omega)]
            exact List.getElem_mem _)
          generalize hx : rd_T26 l i = x at *
          obtain ⟨ok1, ok2, ok3, ok4⟩ := hok
          have hT := HT.out
          obtain ⟨hrd, bad, hrm⟩ := hT
          have hgs : g < wr.heap.size := by obtain ⟨_, _, h, _⟩ := hrd; exact blk_lt h
          have hb0 := (Below.refl wr.heap.size wr).alloc (Nat.le_refl _) (.cells #[.int .i64 x.f0, .int .i64 x.f1, .int .u64 x.f2, .int .u64 x.f3, .string x.f4] 26)
          have HK0 := Aside0.mk (blk_new wr (.cells #[.int .i64 x.f0, .int .i64 x.f1, .int .u64 x.f2, .int .u64 x.f3, .string x.f4] 26))
          have HRD0 := Aside0.mk (hrd.below hb0)
          have HRM0 : Aside0 (RM (wr.alloc (.cells #[.int .i64 x.f0, .int .i64 x.f1, .int .u64 x.f2, .int .u64 x.f3, .string x.f4] 26)) h B d b p bad) := ⟨⟨blk_alloc hrm.1 _, hrm.2.1, hrm.2.2.1, Kd.C_below hrm.2.2.2 hb0⟩⟩
          have HBA := Aside0.mk (HBi.out.trans (hb0.mono HBi.out.size))
          clear hrd hrm hb0 hx
          by_cases hk : x.f0 = 1
          · have hf : (x.f0 == 1) = true := by simp [hk]
            clear hk
            have HPN := Aside0.mk (fun w hh => number_both g b p x.f3 w hh HBB.out)
            have HRN := Aside0.mk (fun w bad hh => ref_number_both h B d b p bad x.f3 w hh HBB.out ok1)
            generalize outN b p x.f3 = O at *
            obtain ⟨o1, o2, o3⟩ := O
            dsimp only at HPN HRN
            go_wp2_with fail
            refine (HPN.out _ HRD0.out).mono ?_
            rintro e w5 ⟨rfl, hg5, hr5⟩
            have hk5 := blk_grown HK0.out hg5 (by have := hgs; simp; omega)
            have c5 := blk_cell hk5 3
            have HRM5 := Aside0.mk (HRM0.out.other hg5 (Ne.symm HGH.out) HRD0.out)
            have HB5 := Aside0.mk (Below.grownBy HBA.out hg5 HBA.out.size HG.out)
            have HRD5 := Aside0.mk hr5
            clear hk5 hg5 hr5
            go_wp2_with fail
            refine (HRN.out _ _ HRM5.out).mono ?_
            rintro e w6 ⟨rfl, hg6, bad6, hrm6⟩
            have HRM6 := Aside0.mk hrm6
            have hrd6 := HRD5.out.grown hg6 HGH.out HRM5.out.1
            have HB6 := Aside0.mk (Below.grownBy HB5.out hg6 HB5.out.size HH.out)
            have c61 := blk_cell hrm6.1 1
            have ho3 := hrm6.2.1
            have hdl : (b.drop o3).length = b.length - o3 := List.length_drop
            have hlen : (((b.drop o3).length : Int) == (b.length : Int) - o3) = true := by rw [hdl]; simp; omega
            have hwr : IntKind.i64.wrap ((b.length : Int) - o3) = (b.length : Int) - o3 := IntWalk.i64_in _ (by omega)
            have HD : Aside0 (∃ D, b.drop o3 = D) := ⟨⟨_, rfl⟩⟩
            obtain ⟨D, hD⟩ := HD.out
            rw [hD] at hlen hrd6
            have HRD6 := Aside0.mk hrd6
            have HDE := Aside0.mk hD
            clear hD hdl hrd6 hrm6 hg6 c5
            go_wp2_with fail
            refine wp_region_held_drew (S := (fun w' => w'.cell? ⟨h, 1, none⟩ = some (.int .i64 o3))) (by kernel_rfl) ?hSn0 (fun hHeld => ?_)
            case hSn0 => exact c61
            refine held_take 0 (some 88) (v := ?vn0) rfl rfl (by kernel_rfl) (by kernel_rfl) (by kernel_rfl) (fun _ _ _ h => h) (by rfl) ?yn0 (by assumption) ?_
            case yn0 => ((intro w hSw); (try dsimp only at hSw); go_simp <;> (with_reducible rfl))
            try simp only [Act.put, List.setIfInBounds_toArray, List.set_cons_zero, List.set_cons_succ]
            refine held_take 1 (some 89) (v := ?vn1) rfl rfl (by kernel_rfl) (by kernel_rfl) (by kernel_rfl) (fun _ _ _ h => h) (by rfl) ?yn1 (by assumption) ?_
            case yn1 => ((intro w hSw); (try dsimp only at hSw); go_simp <;> (with_reducible rfl))
            try simp only [Act.put, List.setIfInBounds_toArray, List.set_cons_zero, List.set_cons_succ]
            refine held_take 2 (some 90) (v := ?vn2) rfl rfl (by kernel_rfl) (by kernel_rfl) (by kernel_rfl) (fun _ _ _ h => h) (by rfl) ?yn2 (by assumption) ?_
            case yn2 => ((intro w hSw); (try dsimp only at hSw); go_simp <;> (with_reducible rfl))
            try simp only [Act.put, List.setIfInBounds_toArray, List.set_cons_zero, List.set_cons_succ]
            refine held_take 3 (some 91) (v := ?vn3) rfl rfl (by kernel_rfl) (by kernel_rfl) (by kernel_rfl) (fun _ _ _ h => h) (by rfl) ?yn3 (by assumption) ?_
            case yn3 => ((intro w hSw); (try dsimp only at hSw); go_simp <;> (with_reducible rfl))
            try simp only [Act.put, List.setIfInBounds_toArray, List.set_cons_zero, List.set_cons_succ]
            refine held_take 5 (some 93) (v := ?vn5) rfl rfl (by kernel_rfl) (by kernel_rfl) (by kernel_rfl) (fun _ _ _ h => h) (by rfl) ?yn5 (by assumption) ?_
            case yn5 => ((intro w hSw); (try dsimp only at hSw); go_simp <;> (with_reducible rfl))
            try simp only [Act.put, List.setIfInBounds_toArray, List.set_cons_zero, List.set_cons_succ]
            refine held_take 6 (some 94) (v := ?vn6) rfl rfl (by kernel_rfl) (by kernel_rfl) (by kernel_rfl) (fun _ _ _ h => h) (by rfl) ?yn6 (by assumption) ?_
            case yn6 => ((intro w hSw); (try dsimp only at hSw); go_simp <;> (with_reducible rfl))
            try simp only [Act.put, List.setIfInBounds_toArray, List.set_cons_zero, List.set_cons_succ]
            refine held_take 7 (some 95) (v := ?vn7) rfl rfl (by kernel_rfl) (by kernel_rfl) (by kernel_rfl) (fun _ _ _ h => h) (by rfl) ?yn7 (by assumption) ?_
            case yn7 => ((intro w hSw); (try dsimp only at hSw); go_simp <;> (with_reducible rfl))
            try simp only [Act.put, List.setIfInBounds_toArray, List.set_cons_zero, List.set_cons_succ]
            refine held_take 8 (some 96) (v := ?vn8) rfl rfl (by kernel_rfl) (by kernel_rfl) (by kernel_rfl) (fun _ _ _ h => h) (by rfl) ?yn8 (by assumption) ?_
            case yn8 => ((intro w hSw); (try dsimp only at hSw); go_simp <;> (with_reducible rfl))
            try simp only [Act.put, List.setIfInBounds_toArray, List.set_cons_zero, List.set_cons_succ]
            refine held_take 9 (some 97) (v := ?vn9) rfl rfl (by kernel_rfl) (by kernel_rfl) (by kernel_rfl) (fun _ _ _ h => h) (by rfl) ?yn9 (by assumption) ?_
            case yn9 => ((intro w hSw); (try dsimp only at hSw); go_simp <;> (with_reducible rfl))
            try simp only [Act.put, List.setIfInBounds_toArray, List.set_cons_zero, List.set_cons_succ]
            refine held_take 10 (some 98) (v := ?vn10) rfl rfl (by kernel_rfl) (by kernel_rfl) (by kernel_rfl) (fun _ _ _ h => h) (by rfl) ?yn10 (by assumption) ?_
            case yn10 => ((intro w hSw); (try dsimp only at hSw); go_simp <;> (with_reducible rfl))
            try simp only [Act.put, List.setIfInBounds_toArray, List.set_cons_zero, List.set_cons_succ]
            refine held_take 11 (some 99) (v := ?vn11) rfl rfl (by kernel_rfl) (by kernel_rfl) (by kernel_rfl) (fun _ _ _ h => h) (by rfl) ?yn11 (by assumption) ?_
            case yn11 => ((intro w hSw); (try dsimp only at hSw); go_simp <;> (with_reducible rfl))
            try simp only [Act.put, List.setIfInBounds_toArray, List.set_cons_zero, List.set_cons_succ]
            refine wpAnyH_ready (rs := [4]) (by kernel_rfl) (by simp) ?_
            refine AllReadyH.cons rfl (fun K hK => ?_) AllReadyH.nil
            go_simp
            refine (left_any g D _ (show RD w6.drew g D from HRD6.out)).mono ?_
            rintro e w7 ⟨rfl, rfl⟩
            refine hK.out _ _ ?hSn5 (fun hHeld => ?_)
            case hSn5 => exact c61
            clear hK K
            try simp only [Act.put, List.setIfInBounds_toArray, List.set_cons_zero, List.set_cons_succ]
            refine held_take 12 (some 100) (v := ?vn12) rfl rfl (by kernel_rfl) (by kernel_rfl) (by kernel_rfl) (fun _ _ _ h => h) (by rfl) ?yn12 (by assumption) ?_
            case yn12 => ((intro w hSw); (try dsimp only at hSw); go_simp <;> (with_reducible rfl))
            try simp only [Act.put, List.setIfInBounds_toArray, List.set_cons_zero, List.set_cons_succ]
            refine held_take 13 (some 101) (v := ?vn13) rfl rfl (by kernel_rfl) (by kernel_rfl) (by kernel_rfl) (fun _ _ _ h => h) (by rfl) ?yn13 (by assumption) ?_
            case yn13 => ((intro w hSw); (try dsimp only at hSw); go_simp <;> (with_reducible rfl))
            try simp only [Act.put, List.setIfInBounds_toArray, List.set_cons_zero, List.set_cons_succ]
            refine wpAnyH_done (by kernel_rfl) ?_ _
            go_wp2
            go_roundw
            case rel => exact ⟨i + 1, o3, by go_num, by omega, ⟨by rw [Two, HDE.out]; exact ⟨HRD6.out, bad6, HRM6.out⟩⟩, ⟨HB6.out.drew⟩⟩
            case measure => simp [intOf]; omega
          · have hf : (x.f0 == 1) = false := by simp [hk]
            clear hk
            have HPN := Aside0.mk (fun w hh => text_both g b p x.f1 w hh HBB.out ok4)
            have HRN := Aside0.mk (fun w bad hh => ref_text_both h B d b p bad x.f1 w hh HBB.out ok3 ok4)
            generalize outT b p x.f1 = O at *
            obtain ⟨o1, o2, o3⟩ := O
            dsimp only at HPN HRN
            go_wp2_with fail
            refine (HPN.out _ HRD0.out).mono ?_
            rintro e w5 ⟨rfl, hg5, hr5⟩
            have hk5 := blk_grown HK0.out hg5 (by have := hgs; simp; omega)
            have c5 := blk_cell hk5 1
            have HRM5 := Aside0.mk (HRM0.out.other hg5 (Ne.symm HGH.out) HRD0.out)
            have HB5 := Aside0.mk (Below.grownBy HBA.out hg5 HBA.out.size HG.out)
            have HRD5 := Aside0.mk hr5
            clear hk5 hg5 hr5
            go_wp2_with fail
            refine (HRN.out _ _ HRM5.out).mono ?_
            rintro e w6 ⟨rfl, hg6, bad6, hrm6⟩
            have HRM6 := Aside0.mk hrm6
            have hrd6 := HRD5.out.grown hg6 HGH.out HRM5.out.1
            have HB6 := Aside0.mk (Below.grownBy HB5.out hg6 HB5.out.size HH.out)
            have c61 := blk_cell hrm6.1 1
            have ho3 := hrm6.2.1
            have hdl : (b.drop o3).length = b.length - o3 := List.length_drop
            have hlen : (((b.drop o3).length : Int) == (b.length : Int) - o3) = true := by rw [hdl]; simp; omega
            have hwr : IntKind.i64.wrap ((b.length : Int) - o3) = (b.length : Int) - o3 := IntWalk.i64_in _ (by omega)
            have HD : Aside0 (∃ D, b.drop o3 = D) := ⟨⟨_, rfl⟩⟩
            obtain ⟨D, hD⟩ := HD.out
            rw [hD] at hlen hrd6
            have HRD6 := Aside0.mk hrd6
            have HDE := Aside0.mk hD
            clear hD hdl hrd6 hrm6 hg6 c5
            go_wp2_with fail
            refine wp_region_held_drew (S := (fun w' => w'.cell? ⟨h, 1, none⟩ = some (.int .i64 o3))) (by kernel_rfl) ?hSt0 (fun hHeld => ?_)
            case hSt0 => exact c61
            refine held_take 0 (some 88) (v := ?vt0) rfl rfl (by kernel_rfl) (by kernel_rfl) (by kernel_rfl) (fun _ _ _ h => h) (by rfl) ?yt0 (by assumption) ?_
            case yt0 => ((intro w hSw); (try dsimp only at hSw); go_simp <;> (with_reducible rfl))
            try simp only [Act.put, List.setIfInBounds_toArray, List.set_cons_zero, List.set_cons_succ]
            refine held_take 1 (some 89) (v := ?vt1) rfl rfl (by kernel_rfl) (by kernel_rfl) (by kernel_rfl) (fun _ _ _ h => h) (by rfl) ?yt1 (by assumption) ?_
            case yt1 => ((intro w hSw); (try dsimp only at hSw); go_simp <;> (with_reducible rfl))
            try simp only [Act.put, List.setIfInBounds_toArray, List.set_cons_zero, List.set_cons_succ]
            refine held_take 2 (some 90) (v := ?vt2) rfl rfl (by kernel_rfl) (by kernel_rfl) (by kernel_rfl) (fun _ _ _ h => h) (by rfl) ?yt2 (by assumption) ?_
            case yt2 => ((intro w hSw); (try dsimp only at hSw); go_simp <;> (with_reducible rfl))
            try simp only [Act.put, List.setIfInBounds_toArray, List.set_cons_zero, List.set_cons_succ]
            refine held_take 3 (some 91) (v := ?vt3) rfl rfl (by kernel_rfl) (by kernel_rfl) (by kernel_rfl) (fun _ _ _ h => h) (by rfl) ?yt3 (by assumption) ?_
            case yt3 => ((intro w hSw); (try dsimp only at hSw); go_simp <;> (with_reducible rfl))
            try simp only [Act.put, List.setIfInBounds_toArray, List.set_cons_zero, List.set_cons_succ]
            refine held_take 5 (some 93) (v := ?vt5) rfl rfl (by kernel_rfl) (by kernel_rfl) (by kernel_rfl) (fun _ _ _ h => h) (by rfl) ?yt5 (by assumption) ?_
            case yt5 => ((intro w hSw); (try dsimp only at hSw); go_simp <;> (with_reducible rfl))
            try simp only [Act.put, List.setIfInBounds_toArray, List.set_cons_zero, List.set_cons_succ]
            refine held_take 6 (some 94) (v := ?vt6) rfl rfl (by kernel_rfl) (by kernel_rfl) (by kernel_rfl) (fun _ _ _ h => h) (by rfl) ?yt6 (by assumption) ?_
            case yt6 => ((intro w hSw); (try dsimp only at hSw); go_simp <;> (with_reducible rfl))
            try simp only [Act.put, List.setIfInBounds_toArray, List.set_cons_zero, List.set_cons_succ]
            refine held_take 7 (some 95) (v := ?vt7) rfl rfl (by kernel_rfl) (by kernel_rfl) (by kernel_rfl) (fun _ _ _ h => h) (by rfl) ?yt7 (by assumption) ?_
            case yt7 => ((intro w hSw); (try dsimp only at hSw); go_simp <;> (with_reducible rfl))
            try simp only [Act.put, List.setIfInBounds_toArray, List.set_cons_zero, List.set_cons_succ]
            refine held_take 8 (some 96) (v := ?vt8) rfl rfl (by kernel_rfl) (by kernel_rfl) (by kernel_rfl) (fun _ _ _ h => h) (by rfl) ?yt8 (by assumption) ?_
            case yt8 => ((intro w hSw); (try dsimp only at hSw); go_simp <;> (with_reducible rfl))
            try simp only [Act.put, List.setIfInBounds_toArray, List.set_cons_zero, List.set_cons_succ]
            refine held_take 9 (some 97) (v := ?vt9) rfl rfl (by kernel_rfl) (by kernel_rfl) (by kernel_rfl) (fun _ _ _ h => h) (by rfl) ?yt9 (by assumption) ?_
            case yt9 => ((intro w hSw); (try dsimp only at hSw); go_simp <;> (with_reducible rfl))
            try simp only [Act.put, List.setIfInBounds_toArray, List.set_cons_zero, List.set_cons_succ]
            refine held_take 10 (some 98) (v := ?vt10) rfl rfl (by kernel_rfl) (by kernel_rfl) (by kernel_rfl) (fun _ _ _ h => h) (by rfl) ?yt10 (by assumption) ?_
            case yt10 => ((intro w hSw); (try dsimp only at hSw); go_simp <;> (with_reducible rfl))
            try simp only [Act.put, List.setIfInBounds_toArray, List.set_cons_zero, List.set_cons_succ]
            refine held_take 11 (some 99) (v := ?vt11) rfl rfl (by kernel_rfl) (by kernel_rfl) (by kernel_rfl) (fun _ _ _ h => h) (by rfl) ?yt11 (by assumption) ?_
            case yt11 => ((intro w hSw); (try dsimp only at hSw); go_simp <;> (with_reducible rfl))
            try simp only [Act.put, List.setIfInBounds_toArray, List.set_cons_zero, List.set_cons_succ]
            refine wpAnyH_ready (rs := [4]) (by kernel_rfl) (by simp) ?_
            refine AllReadyH.cons rfl (fun K hK => ?_) AllReadyH.nil
            go_simp
            refine (left_any g D _ (show RD w6.drew g D from HRD6.out)).mono ?_
            rintro e w7 ⟨rfl, rfl⟩
            refine hK.out _ _ ?hSt5 (fun hHeld => ?_)
            case hSt5 => exact c61
            clear hK K
            try simp only [Act.put, List.setIfInBounds_toArray, List.set_cons_zero, List.set_cons_succ]
            refine held_take 12 (some 100) (v := ?vt12) rfl rfl (by kernel_rfl) (by kernel_rfl) (by kernel_rfl) (fun _ _ _ h => h) (by rfl) ?yt12 (by assumption) ?_
            case yt12 => ((intro w hSw); (try dsimp only at hSw); go_simp <;> (with_reducible rfl))
            try simp only [Act.put, List.setIfInBounds_toArray, List.set_cons_zero, List.set_cons_succ]
            refine held_take 13 (some 101) (v := ?vt13) rfl rfl (by kernel_rfl) (by kernel_rfl) (by kernel_rfl) (fun _ _ _ h => h) (by rfl) ?yt13 (by assumption) ?_
            case yt13 => ((intro w hSw); (try dsimp only at hSw); go_simp <;> (with_reducible rfl))
            try simp only [Act.put, List.setIfInBounds_toArray, List.set_cons_zero, List.set_cons_succ]
            refine wpAnyH_done (by kernel_rfl) ?_ _
            go_wp2
            go_roundw
            case rel => exact ⟨i + 1, o3, by go_num, by omega, ⟨by rw [Two, HDE.out]; exact ⟨HRD6.out, bad6, HRM6.out⟩⟩, ⟨HB6.out.drew⟩⟩
            case measure => simp [intOf]; omega
        · obtain rfl : i = m := by omega
          by_cases hil : i < l.length
          · have h1 : decide ((i : Int) < l.length) = true := by simp; omega
            have h2 : decide ((i : Int) < 60) = false := by simp; omega
            go_wp2
            go_meet
            case rel => exact HBi
          · have h1 : decide ((i : Int) < l.length) = false := by simp; omega
            go_wp2
            go_meet
            case rel => exact HBi
    case rest =>
      have HB5 := hcut
      go_wp2_with fail
      refine (alive_any _).mono ?_
      rintro e w7 ⟨rfl, hb7⟩
      have HB7 := Aside0.mk (HB5.out.trans (hb7.mono HB5.out.size))
      clear hb7
      go_wp2
      go_ret
      exact ⟨rfl, HB7.out⟩
  · have h4 : decide ((400 : Int) < b.length) = true := by simp; omega
    go_enter Try.func4, Try.ntmps4
    go_wp2_with fail
    refine (alive_any _).mono ?_
    rintro e w7 ⟨rfl, hb7⟩
    have HB7 := Aside0.mk hb7
    clear hb7
    go_wp2
    go_ret
    exact ⟨rfl, HB7.out⟩
end Go.Proofs.Ytnmmknifidpmbaa.H
