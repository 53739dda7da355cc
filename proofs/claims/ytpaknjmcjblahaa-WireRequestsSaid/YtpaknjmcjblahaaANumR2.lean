/- NumR2 -/
import Derived.Test.YtpaknjmcjblahaaANumR1
namespace Go.Proofs.Ytpaknjmcjblahaa.H
open Go.RowKit Go.Proofs.Ytpaknjmcjblahaa.P Go.Proofs.YtpaknjmcjblahaaW.PrintWords Go.Proofs.YtpaknjmcjblahaaW.PrintLast Go.Proofs.YtpaknjmcjblahaaW.PrintMore
attribute [local go_sem] max2_int max_two
set_option linter.unusedVariables false
set_option maxRecDepth 20000
set_option linter.unusedSimpArgs false
theorem grown_put {w w1 : World} {g : Nat} (h : w.grownBy w1 (some g)) (j : Nat) (v : Value) : w.grownBy (w1.setCell ⟨g, j, none⟩ v) (some g) := by
  have hb := (Below.refl g w1).setCell (p := ⟨g, j, none⟩) (Nat.le_refl _) v
  refine ⟨hb.os.trans h.os, hb.tape.trans h.tape, hb.output.trans h.output, Nat.le_trans h.size hb.size, fun k hk hn => ?_⟩
  rw [Below.heap_setCell w1 ⟨g, j, none⟩ v k (fun e => hn (by rw [e]))]
  exact h.block k hk hn
theorem mid_eq (b : List Int) (i k n : Nat) : (b.take (i + k + n)).drop (i + k) = ((b.drop i).take (k + n)).drop k := by
  rw [List.take_drop, List.drop_drop, Nat.add_assoc]
theorem RM.reset {w : World} {g d i j : Nat} {bad : Bool} {b : List Int} {B : Option Addr} (h : RM w g B d b j bad) (hi : i ≤ b.length) : RM ((w.setCell ⟨g, 1, none⟩ (.int .i64 i)).setCell ⟨g, 2, none⟩ (.bool true)) g B d b i true := by
  obtain ⟨hg, h1, h2, hr⟩ := h
  have e1 := blk_put hg 1 (.int .i64 i) rfl
  have hr1 : Kd.C (Kd.int .u8) (w.setCell ⟨g, 1, none⟩ (.int .i64 i)) B b.length b := C_setCell' 1 hr (fun _ _ h => h) (RM.apart hg hr)
  exact ⟨blk_put e1 2 (.bool true) rfl, hi, h2, C_setCell' 2 hr1 (fun _ _ h => h) (RM.apart e1 hr1)⟩
theorem RM.drewN {w : World} {g d i : Nat} {bad : Bool} {b : List Int} {B : Option Addr} (h : RM w g B d b i bad) (n : Nat) : RM (w.drewN n) g B d b i bad := h
theorem grown_drewN {w w1 : World} {r : Option Nat} (h : w.grownBy w1 r) (n : Nat) : w.grownBy (w1.drewN n) r := ⟨h.os, h.tape, h.output, h.size, h.block⟩
set_option maxHeartbeats 1000000 in
set_option maxRecDepth 20000 in
theorem reftext_rd (g : Nat) (B : Option Addr) (d : Nat) (b : List Int) (i : Nat) (bad : Bool) (m : Int) (w : World) (h : RM w g B d b i bad) (hb : bytes b) (hm0 : -9223372036854775808 ≤ m) (hm1 : m ≤ 9223372036854775807) :
    Calls Try.prog 58 #[.pointer (some ⟨g, 0, none⟩), .int .i64 m] w fun e w' => w.grownBy w' (some g) ∧
      (((nextS (b.drop i)).2 ≠ 0 ∧ 0 ≤ m ∧ (nextS (b.drop i)).1 ≤ m ∧ (nextS (b.drop i)).1 ≤ ((b.drop i).length : Int) - (nextS (b.drop i)).2 ∧
          e = .returned (.tuple #[.string (strOfNums (((b.drop i).take ((nextS (b.drop i)).2 + (nextS (b.drop i)).1.toNat)).drop (nextS (b.drop i)).2)), .int .i64 0]) ∧ RM w' g B d b (i + ((nextS (b.drop i)).2 + (nextS (b.drop i)).1.toNat)) bad) ∨
        (((nextS (b.drop i)).2 = 0 ∨ m < 0 ∨ m < (nextS (b.drop i)).1 ∨ ((b.drop i).length : Int) - (nextS (b.drop i)).2 < (nextS (b.drop i)).1) ∧ e = .returned (.tuple #[.string ⟨#[]⟩, .int .i64 11]) ∧ RM w' g B d b i true)) := by
  have HH := Aside0.mk h
  obtain ⟨hg, hi, hd, hr⟩ := h
  have hll := Kd.C_max hr
  have hcell0 := blk_cell hg 0
  have hcell1 := blk_cell hg 1
  have hN := fun (q : Int) w h hq => refnumber_any g B d b i bad q w h hb hq
  have hlb : (b.drop i).length + i = b.length := by rw [List.length_drop]; omega
  have hle := nextS_le (b.drop i)
  have hbl := bytes_drop hb i
  have hns : (nextS (b.drop i)).2 ≠ 0 → 0 ≤ (nextS (b.drop i)).1 ∧ (nextS (b.drop i)).1 < 18446744073709551616 := fun h => (put_nextS _ hbl h).2
  have hmid := mid_eq b i (nextS (b.drop i)).2 (nextS (b.drop i)).1.toNat
  rw [← hmid]
  clear hmid
  generalize (b.drop i).length = len at *
  generalize nextS (b.drop i) = F at *
  obtain ⟨n, k⟩ := F
  dsimp only at *
  have HN := Aside0.mk hN
  have HB := Aside0.mk hb
  have HNS := Aside0.mk hns
  clear hN hg hr hb hbl hns
  by_cases hm : 0 ≤ m
  · have hmd : decide (m < 0) = false := by simp; omega
    go_enter Try.func58, Try.ntmps58
    go_wp2_with fail
    all_goals try omega
    refine (HN.out m _ HH.out hm).mono ?_
    rintro e w1 ⟨hgr, ⟨hk, hnm, rfl, hrm⟩ | ⟨hno, rfl, hrm⟩⟩
    · have hn0 := HNS.out hk
      obtain ⟨q, rfl⟩ := Int.eq_ofNat_of_zero_le hn0.1
      obtain ⟨j, hj⟩ : ∃ j, j = i + k := ⟨_, rfl⟩
      rw [← hj] at hrm
      have hjb : j ≤ b.length := by omega
      have hw2 : IntKind.u64.wrap ((b.length : Int) - j) = (b.length : Int) - j := IntWalk.u64_in _ (by omega)
      have hw3 : IntKind.i64.wrap ((b.length : Int) - j) = (b.length : Int) - j := IntWalk.i64_in _ (by omega)
      by_cases hq : (q : Int) ≤ (len : Int) - k
      · have hqd : decide ((b.length : Int) - j < (q : Int)) = false := by simp; omega
        have hw1 : IntKind.i64.wrap (q : Int) = q := IntWalk.i64_in _ (by omega)
        have hqj : j + q ≤ b.length := by omega
        have HJ := Aside0.mk hj
        have HQ := Aside0.mk hq
        have HK := Aside0.mk hk
        have HNM := Aside0.mk hnm
        have HLN := Aside0.mk hlb
        clear hj hq hk hnm hlb hle hn0
        skip
        have HRM := Aside0.mk hrm
        have HGR := Aside0.mk hgr
        have c10 := blk_cell hrm.1 0
        have c11 := blk_cell hrm.1 1
        have c12 := blk_cell hrm.1 2
        have f11 := blk_frozen hrm.1 1
        have f12 := blk_frozen hrm.1 2
        clear hrm hgr hcell0 hcell1
        go_wp2
        go_quiet (fail)
        have HRM2 := Aside0.mk (HRM.out.drewN nq)
        have HGR2 := Aside0.mk (grown_drewN HGR.out nq)
        have d10 := blk_cell HRM2.out.1 0
        have d11 := blk_frozen HRM2.out.1 1
        have c21 := blk_cell HRM2.out.1 1
        clear c10 c11 c12 f11 f12 hw2 hw3 hqd
        generalize w1.drewN nq = w2 at *
        obtain ⟨i0, hi0, hz0, hz1, hz2⟩ := info_parts info5
        obtain ⟨A2, hcut2, hrd2, hcc2⟩ := print_mid_int (P := Try.prog) (k := .u8) 37 5 Try.underlying37 hi0 hz1 B d b (j : Int) ((j : Int) + q) (by omega) (by omega) (by omega) hd
        rw [show ((j : Int) + q).toNat = j + q by omega, Int.toNat_natCast] at hcut2 hrd2 hcc2
        go_wp2
        have HRM3 : Aside0 (RM (w2.setCell ⟨g, 1, none⟩ (.int .i64 ((j : Int) + (q : Int)))) g B d b (j + q) bad) :=
          ⟨⟨blk_put HRM2.out.1 1 (.int .i64 ((j : Int) + (q : Int))) rfl, hqj, hd, C_setCell' 1 HRM2.out.2.2.2 (fun _ _ h => h) (RM.apart HRM2.out.1 HRM2.out.2.2.2)⟩⟩
        have HGR3 := Aside0.mk (grown_put HGR2.out 1 (.int .i64 ((j : Int) + (q : Int))))
        clear d10 d11 c21
        generalize (w2.setCell ⟨g, 1, none⟩ (.int .i64 ((j : Int) + (q : Int)))) = w3 at *
        have d30 := blk_cell HRM3.out.1 0
        have d31 := blk_cell HRM3.out.1 1
        simp only [Int.natCast_add] at d31
        have hstr := Kd.C_string (P := Try.prog) (src := 37) (dst := 9) (c := d - j) Try.underlying37 Try.underlying5 Try.underlying9 (Kd.C_of_reads (h1 := fun _ => rfl) (hrd2 w3.drew (Kd.reads_of_C (enc := Value.int .u8) (d := (0 : Int)) (h1 := fun _ => rfl) (show Kd.C (Kd.int .u8) w3.drew B b.length b from HRM3.out.2.2.2))))
        have hjq : IntKind.i64.wrap (j : Int) = j := IntWalk.i64_in _ (by omega)
        clear hi0 hz0 hz1 hz2 hrd2
        generalize hM : ((b.take (j + q)).drop j) = M at *
        have HM := Aside0.mk hM
        clear hM
        generalize hS : strOfNums M = S at *
        have HS := Aside0.mk hS
        clear hS
        refine wp_region_held_drew (S := (fun w' => w'.cell? ⟨g, 0, none⟩ = some (.slice B b.length d) ∧ w'.cell? ⟨g, 1, none⟩ = some (.int .i64 ((j : Int) + (q : Int))) ∧ (convert 37 9 (.slice A2 M.length (d - j))).run Try.prog w' = .ok (.string S) w')) (by kernel_rfl) ?hSz0 (fun hHeld => ?_)
        case hSz0 => exact ⟨d30, d31, hstr⟩
        refine held_take 0 (some 59) (v := ?vz0) rfl rfl (by kernel_rfl) (by kernel_rfl) (by kernel_rfl) (fun _ _ _ h => h) (by rfl) ?yz0 (by assumption) ?_
        case yz0 => ((intro w hSw); (try dsimp only at hSw); go_simp <;> (with_reducible rfl))
        try simp only [Act.put, List.setIfInBounds_toArray, List.set_cons_zero, List.set_cons_succ]
        refine held_take 1 (some 60) (v := ?vz1) rfl rfl (by kernel_rfl) (by kernel_rfl) (by kernel_rfl) (fun _ _ _ h => h) (by rfl) ?yz1 (by assumption) ?_
        case yz1 => ((intro w hSw); (try dsimp only at hSw); go_simp <;> (with_reducible rfl))
        try simp only [Act.put, List.setIfInBounds_toArray, List.set_cons_zero, List.set_cons_succ]
        refine held_take 2 (some 61) (v := ?vz2) rfl rfl (by kernel_rfl) (by kernel_rfl) (by kernel_rfl) (fun _ _ _ h => h) (by rfl) ?yz2 (by assumption) ?_
        case yz2 => ((intro w hSw); (try dsimp only at hSw); go_simp <;> (with_reducible rfl))
        try simp only [Act.put, List.setIfInBounds_toArray, List.set_cons_zero, List.set_cons_succ]
        refine held_take 3 (some 62) (v := ?vz3) rfl rfl (by kernel_rfl) (by kernel_rfl) (by kernel_rfl) (fun _ _ _ h => h) (by rfl) ?yz3 (by assumption) ?_
        case yz3 => ((intro w hSw); (try dsimp only at hSw); go_simp <;> (with_reducible rfl))
        try simp only [Act.put, List.setIfInBounds_toArray, List.set_cons_zero, List.set_cons_succ]
        refine held_take 4 (some 63) (v := ?vz4) rfl rfl (by kernel_rfl) (by kernel_rfl) (by kernel_rfl) (fun _ _ _ h => h) (by rfl) ?yz4 (by assumption) ?_
        case yz4 => ((intro w hSw); (try dsimp only at hSw); go_simp <;> (with_reducible rfl))
        try simp only [Act.put, List.setIfInBounds_toArray, List.set_cons_zero, List.set_cons_succ]
        refine held_take 5 (some 64) (v := ?vz5) rfl rfl (by kernel_rfl) (by kernel_rfl) (by kernel_rfl) (fun _ _ _ h => h) (by rfl) ?yz5 (by assumption) ?_
        case yz5 => ((intro w hSw); (try dsimp only at hSw); go_simp <;> (with_reducible rfl))
        try simp only [Act.put, List.setIfInBounds_toArray, List.set_cons_zero, List.set_cons_succ]
        refine held_take 6 (some 65) (v := ?vz6) rfl rfl (by kernel_rfl) (by kernel_rfl) (by kernel_rfl) (fun _ _ _ h => h) (by rfl) ?yz6 (by assumption) ?_
        case yz6 => ((intro w hSw); (try dsimp only at hSw); go_simp <;> (with_reducible rfl))
        try simp only [Act.put, List.setIfInBounds_toArray, List.set_cons_zero, List.set_cons_succ]
        refine held_take 7 (some 66) (v := ?vz7) rfl rfl (by kernel_rfl) (by kernel_rfl) (by kernel_rfl) (fun _ _ _ h => h) (by rfl) ?yz7 (by assumption) ?_
        case yz7 => ((intro w hSw); (try dsimp only at hSw); go_simp <;> (with_reducible rfl))
        try simp only [Act.put, List.setIfInBounds_toArray, List.set_cons_zero, List.set_cons_succ]
        refine held_take 8 (some 67) (v := ?vz8) rfl rfl (by kernel_rfl) (by kernel_rfl) (by kernel_rfl) (fun _ _ _ h => h) (by rfl) ?yz8 (by assumption) ?_
        case yz8 => ((intro w hSw); (try dsimp only at hSw); go_simp <;> (with_reducible rfl))
        try simp only [Act.put, List.setIfInBounds_toArray, List.set_cons_zero, List.set_cons_succ]
        refine held_take 9 (some 68) (v := ?vz9) rfl rfl (by kernel_rfl) (by kernel_rfl) (by kernel_rfl) (fun _ _ _ h => h) (by rfl) ?yz9 (by assumption) ?_
        case yz9 => ((intro w hSw); (try dsimp only at hSw); go_simp <;> (with_reducible rfl))
        try simp only [Act.put, List.setIfInBounds_toArray, List.set_cons_zero, List.set_cons_succ]
        refine held_take 10 (some 69) (v := ?vz10) rfl rfl (by kernel_rfl) (by kernel_rfl) (by kernel_rfl) (fun _ _ _ h => h) (by rfl) ?yz10 (by assumption) ?_
        case yz10 => ((intro w hSw); (try dsimp only at hSw); go_simp <;> (with_reducible rfl))
        try simp only [Act.put, List.setIfInBounds_toArray, List.set_cons_zero, List.set_cons_succ]
        refine held_take 11 (some 70) (v := ?vz11) rfl rfl (by kernel_rfl) (by kernel_rfl) (by kernel_rfl) (fun _ _ _ h => h) (by rfl) ?yz11 (by assumption) ?_
        case yz11 => ((intro w hSw); (try dsimp only at hSw); go_simp <;> (with_reducible rfl))
        try simp only [Act.put, List.setIfInBounds_toArray, List.set_cons_zero, List.set_cons_succ]
        refine held_take 12 (some 71) (v := ?vz12) rfl rfl (by kernel_rfl) (by kernel_rfl) (by kernel_rfl) (fun _ _ _ h => h) (by rfl) ?yz12 (by assumption) ?_
        case yz12 => ((intro w hSw); (try dsimp only at hSw); go_simp <;> (with_reducible rfl))
        try simp only [Act.put, List.setIfInBounds_toArray, List.set_cons_zero, List.set_cons_succ]
        refine held_take 13 (some 72) (v := ?vz13) rfl rfl (by kernel_rfl) (by kernel_rfl) (by kernel_rfl) (fun _ _ _ h => h) (by rfl) ?yz13 (by assumption) ?_
        case yz13 => ((intro w hSw); (try dsimp only at hSw); go_simp <;> (with_reducible rfl))
        try simp only [Act.put, List.setIfInBounds_toArray, List.set_cons_zero, List.set_cons_succ]
        refine held_take 14 (some 73) (v := ?vz14) rfl rfl (by kernel_rfl) (by kernel_rfl) (by kernel_rfl) (fun _ _ _ h => h) (by rfl) ?yz14 (by assumption) ?_
        case yz14 => ((intro w hSw); (try dsimp only at hSw); go_simp <;> (with_reducible rfl))
        try simp only [Act.put, List.setIfInBounds_toArray, List.set_cons_zero, List.set_cons_succ]
        refine held_take 15 (some 74) (v := ?vz15) rfl rfl (by kernel_rfl) (by kernel_rfl) (by kernel_rfl) (fun _ _ _ h => h) (by rfl) ?yz15 (by assumption) ?_
        case yz15 => ((intro w hSw); (try dsimp only at hSw); go_simp <;> (with_reducible rfl))
        try simp only [Act.put, List.setIfInBounds_toArray, List.set_cons_zero, List.set_cons_succ]
        refine held_take 16 (some 75) (v := ?vz16) rfl rfl (by kernel_rfl) (by kernel_rfl) (by kernel_rfl) (fun _ _ _ h => h) (by rfl) ?yz16 (by assumption) ?_
        case yz16 => ((intro w hSw); (try dsimp only at hSw); go_simp <;> (with_reducible rfl))
        try simp only [Act.put, List.setIfInBounds_toArray, List.set_cons_zero, List.set_cons_succ]
        refine held_take 17 (some 4) (v := ?vz17) rfl rfl (by kernel_rfl) (by kernel_rfl) (by kernel_rfl) (fun _ _ _ h => h) (by rfl) ?yz17 (by assumption) ?_
        case yz17 => ((intro w hSw); (try dsimp only at hSw); go_simp <;> (with_reducible rfl))
        try simp only [Act.put, List.setIfInBounds_toArray, List.set_cons_zero, List.set_cons_succ]
        refine held_take 18 (some 5) (v := ?vz18) rfl rfl (by kernel_rfl) (by kernel_rfl) (by kernel_rfl) (fun _ _ _ h => h) (by rfl) ?yz18 (by assumption) ?_
        case yz18 => ((intro w hSw); (try dsimp only at hSw); go_simp <;> (with_reducible rfl))
        try simp only [Act.put, List.setIfInBounds_toArray, List.set_cons_zero, List.set_cons_succ]
        refine wpAnyH_done (by kernel_rfl) ?_ _
        go_wp2
        go_ret2
        refine ⟨grown_drewN HGR3.out 1, .inl ⟨HK.out, hm, HNM.out, HQ.out, ?_, ?_⟩⟩
        · rw [Int.toNat_natCast, ← HJ.out, HM.out, HS.out]
          rfl
        · rw [Int.toNat_natCast, ← Nat.add_assoc, ← HJ.out]
          exact HRM3.out.drewN 1
      · have hqd : decide ((b.length : Int) - j < (q : Int)) = true := by simp; omega
        have HNO := Aside0.mk (show k = 0 ∨ m < 0 ∨ m < (q : Int) ∨ (len : Int) - k < (q : Int) by omega)
        clear hj
        have HRM := Aside0.mk hrm
        have HGR := Aside0.mk hgr
        have c10 := blk_cell hrm.1 0
        have c11 := blk_cell hrm.1 1
        have c12 := blk_cell hrm.1 2
        have f11 := blk_frozen hrm.1 1
        have f12 := blk_frozen hrm.1 2
        clear hrm hgr hcell0 hcell1
        go_wp2
        go_quiet (fail)
        have HRM2 := Aside0.mk (HRM.out.drewN nq)
        have HGR2 := Aside0.mk (grown_drewN HGR.out nq)
        have d11 := blk_frozen HRM2.out.1 1
        have d12 := blk_frozen HRM2.out.1 2
        have c21 := blk_cell HRM2.out.1 1
        have c22 := blk_cell HRM2.out.1 2
        clear c10 c11 c12 f11 f12
        generalize w1.drewN nq = w2 at *
        go_wp2
        go_ret2
        exact ⟨grown_put (grown_put HGR2.out 1 _) 2 _, .inr ⟨HNO.out, rfl, HRM2.out.reset hi⟩⟩
    · have HNO := Aside0.mk (show k = 0 ∨ m < 0 ∨ m < n ∨ (len : Int) - k < n by omega)
      have HRM := Aside0.mk hrm
      have HGR := Aside0.mk hgr
      have c10 := blk_cell hrm.1 0
      have c11 := blk_cell hrm.1 1
      have c12 := blk_cell hrm.1 2
      have f11 := blk_frozen hrm.1 1
      have f12 := blk_frozen hrm.1 2
      clear hrm hgr hcell0 hcell1
      go_wp2
      go_quiet (fail)
      have HRM2 := Aside0.mk (HRM.out.drewN nq)
      have HGR2 := Aside0.mk (grown_drewN HGR.out nq)
      have d11 := blk_frozen HRM2.out.1 1
      have d12 := blk_frozen HRM2.out.1 2
      have c21 := blk_cell HRM2.out.1 1
      have c22 := blk_cell HRM2.out.1 2
      clear c10 c11 c12 f11 f12
      generalize w1.drewN nq = w2 at *
      go_wp2
      go_ret2
      exact ⟨grown_put (grown_put HGR2.out 1 _) 2 _, .inr ⟨HNO.out, rfl, HRM2.out.reset hi⟩⟩
  · have hmd : decide (m < 0) = true := by simp; omega
    go_enter Try.func58, Try.ntmps58
    go_wp2_with fail
    all_goals try omega
    refine (HN.out 0 _ HH.out (by omega)).mono ?_
    rintro e w1 ⟨hgr, ⟨hk, hnm, rfl, hrm⟩ | ⟨hno, rfl, hrm⟩⟩
    · have HNO := Aside0.mk (show k = 0 ∨ m < 0 ∨ m < n ∨ (len : Int) - k < n by omega)
      have HRM := Aside0.mk hrm
      have HGR := Aside0.mk hgr
      have c10 := blk_cell hrm.1 0
      have c11 := blk_cell hrm.1 1
      have c12 := blk_cell hrm.1 2
      have f11 := blk_frozen hrm.1 1
      have f12 := blk_frozen hrm.1 2
      clear hrm hgr hcell0 hcell1
      go_wp2
      go_quiet (fail)
      have HRM2 := Aside0.mk (HRM.out.drewN nq)
      have HGR2 := Aside0.mk (grown_drewN HGR.out nq)
      have d11 := blk_frozen HRM2.out.1 1
      have d12 := blk_frozen HRM2.out.1 2
      have c21 := blk_cell HRM2.out.1 1
      have c22 := blk_cell HRM2.out.1 2
      clear c10 c11 c12 f11 f12
      generalize w1.drewN nq = w2 at *
      go_wp2
      go_ret2
      exact ⟨grown_put (grown_put HGR2.out 1 _) 2 _, .inr ⟨HNO.out, rfl, HRM2.out.reset hi⟩⟩
    · have HNO := Aside0.mk (show k = 0 ∨ m < 0 ∨ m < n ∨ (len : Int) - k < n by omega)
      have HRM := Aside0.mk hrm
      have HGR := Aside0.mk hgr
      have c10 := blk_cell hrm.1 0
      have c11 := blk_cell hrm.1 1
      have c12 := blk_cell hrm.1 2
      have f11 := blk_frozen hrm.1 1
      have f12 := blk_frozen hrm.1 2
      clear hrm hgr hcell0 hcell1
      go_wp2
      go_quiet (fail)
      have HRM2 := Aside0.mk (HRM.out.drewN nq)
      have HGR2 := Aside0.mk (grown_drewN HGR.out nq)
      have d11 := blk_frozen HRM2.out.1 1
      have d12 := blk_frozen HRM2.out.1 2
      have c21 := blk_cell HRM2.out.1 1
      have c22 := blk_cell HRM2.out.1 2
      clear c10 c11 c12 f11 f12
      generalize w1.drewN nq = w2 at *
      go_wp2
      go_ret2
      exact ⟨grown_put (grown_put HGR2.out 1 _) 2 _, .inr ⟨HNO.out, rfl, HRM2.out.reset hi⟩⟩
end Go.Proofs.Ytpaknjmcjblahaa.H
