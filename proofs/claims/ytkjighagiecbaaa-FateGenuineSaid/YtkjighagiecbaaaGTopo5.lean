/- Topo5. -/
import Derived.Test.YtkjighagiecbaaaGTopo4
import Derived.Deep.DeepCutAuto
namespace Go.Proofs.Ytkjighagiecbaaa.H
open Go.RowKit Go.Proofs.Ytkjighagiecbaaa.P Go.Proofs.YtkjighagiecbaaaW.PrintWords Go.Proofs.YtkjighagiecbaaaW.PrintLast Go.Proofs.YtkjighagiecbaaaW.PrintMore
set_option linter.unusedVariables false
set_option linter.unusedSimpArgs false
def rightB (l0 : List Int) (l1 : List S66) : Bool :=
  if l0.length = 0 then false else if 8 < l0.length then false else if 16 < l1.length then false else if l0.any badI then false else if l1.any (badL l0) then false else decide ((joinL l1).length = 2 * l1.length)
theorem cells2_below {w w' : World} {a0 a1 : Addr} {v0 v1 : Value} (h : w.cell? a0 = some v0 ∧ w.cell? a1 = some v1) (hb : Below w.drew.heap.size w.drew w') :
    w'.cell? a0 = some v0 ∧ w'.cell? a1 = some v1 :=
  ⟨pw_cell_below hb h.1, pw_cell_below hb h.2⟩
set_option maxHeartbeats 2000000 in
theorem right_any (A0 : Option Addr) (c0 : Nat) (l0 : List Int) (A1 : Option Addr) (c1 : Nat) (l1 : List S66) (w : World) (hr0 : Kd.C (Kd.int .i64) w A0 l0.length l0) (hr1 : Kd.C k66 w A1 l1.length l1) (hc1 : l1.length ≤ c1) :
    Calls Try.prog 30 #[.agg #[.slice A0 l0.length c0, .slice A1 l1.length c1]] w fun e w' => e = .returned (.bool (rightB l0 l1)) ∧ Below w.heap.size w w' := by
  have huTop := Try.underlying25
  have hu66 := Try.underlying66
  have HR0 := Aside0.mk hr0
  have HR1 := Aside0.mk hr1
  have HM0 := Aside0.mk (Kd.C_max hr0)
  have HM1 := Aside0.mk (Kd.C_max hr1)
  clear hr0 hr1
  by_cases h1 : l0.length = 0
  · have E : Aside0 (rightB l0 l1 = false) := ⟨by simp [rightB, h1]⟩
    rw [E.out]
    have d1 : ((l0.length : Int) == 0) = true := by simp [h1]
    clear h1
    go_enter Try.func30, Try.ntmps30
    go_wp2
    go_ret
    exact ⟨rfl, ((Below.refl _ _).alloc (Nat.le_refl _) _)⟩
  · have d1 : ((l0.length : Int) == 0) = false := by rw [beq_eq_false_iff_ne]; omega
    by_cases h2 : 8 < l0.length
    · have E : Aside0 (rightB l0 l1 = false) := ⟨by simp [rightB, h2]⟩
      rw [E.out]
      have d2 : decide ((8 : Int) < (l0.length : Int)) = true := by simp; omega
      clear h1 h2
      go_enter Try.func30, Try.ntmps30
      go_wp2
      go_ret
      exact ⟨rfl, ((Below.refl _ _).alloc (Nat.le_refl _) _)⟩
    · have d2 : decide ((8 : Int) < (l0.length : Int)) = false := by simp; omega
      by_cases h3 : 16 < l1.length
      · have E : Aside0 (rightB l0 l1 = false) := ⟨by simp [rightB, h3]⟩
        rw [E.out]
        have d3 : decide ((16 : Int) < (l1.length : Int)) = true := by simp; omega
        clear h1 h2 h3
        go_enter Try.func30, Try.ntmps30
        go_wp2
        go_ret
        exact ⟨rfl, ((Below.refl _ _).alloc (Nat.le_refl _) _)⟩
      · have d3 : decide ((16 : Int) < (l1.length : Int)) = false := by simp; omega
        have hB1 : Below w.heap.size w (w.alloc (Obj.cells #[.slice A0 l0.length c0, .slice A1 l1.length c1] 25)) := (Below.refl _ _).alloc (Nat.le_refl _) _
        have hcf := cfI_any A0 c0 l0 badI 46 #[] (enters' Try.func46 (by kernel_rfl) rfl) (w.alloc (Obj.cells #[.slice A0 l0.length c0, .slice A1 l1.length c1] 25)) (Kd.C_below HR0.out hB1) HM0.out (fun W x _ hb => badI_any _ W x trivial hb)
        have HB1 := Aside0.mk hB1
        have HS1 := Aside0.mk hB1.size
        have n1 := Aside0.mk (blk_new w (Obj.cells #[.slice A0 l0.length c0, .slice A1 l1.length c1] 25))
        have E : Aside0 (rightB l0 l1 = if l0.any badI then false else if l1.any (badL l0) then false else decide ((joinL l1).length = 2 * l1.length)) := ⟨by simp [rightB, h1, h2, h3]⟩
        rw [E.out]
        have H12 := Aside0.mk (And.intro h1 (And.intro h2 h3))
        clear hB1 h1 h2 h3 E
        cases hq1 : l0.any badI with
        | true =>
          rw [hq1] at hcf
          clear hq1
          simp only [if_true]
          go_enter Try.func30, Try.ntmps30
          go_wp2_with fail
          refine hcf.mono ?_
          rintro e W2 ⟨rfl, hb2⟩
          have HB2 := Aside0.mk (HB1.out.trans (hb2.mono HS1.out))
          clear hb2 hcf
          go_wp2
          go_ret
          exact ⟨rfl, HB2.out⟩
        | false =>
          rw [hq1] at hcf
          clear hq1
          simp only [Bool.false_eq_true, if_false]
          have hcl := fun W2 (hB : Below w.heap.size w W2) (hn : W2.heap[w.heap.size]? = some (.cells #[.slice A0 l0.length c0, .slice A1 l1.length c1] 25 (0, 0))) => cfL_any A1 c1 l1 (badL l0) 48 #[.pointer (some ⟨w.heap.size, 0, none⟩)] (enters' Try.func48 (by kernel_rfl) rfl) W2 (Kd.C_below HR1.out hB) HM1.out
            (fun W x _ hb => badL_any w.heap.size A0 c0 l0 _ _ (Kd.C_below HR0.out hB) rfl hn W x trivial hb)
          have ed : decide ((joinL l1).length = 2 * l1.length) = ((((joinL l1).length : Int)) == 2 * (l1.length : Int)) := by
            rw [Bool.eq_iff_iff, beq_iff_eq, decide_eq_true_iff]; omega
          rw [ed]
          clear ed
          cases hq2 : l1.any (badL l0) with
          | true =>
            rw [hq2] at hcl
            have Q0 := Aside0.mk hcl
            clear hq2 hcl
            simp only [if_true]
            go_enter Try.func30, Try.ntmps30
            go_wp2_with fail
            refine hcf.mono ?_
            rintro e W2 ⟨rfl, hb2⟩
            have HB2 := Aside0.mk (HB1.out.trans (hb2.mono HS1.out))
            have HS2 := Aside0.mk (Nat.le_trans HS1.out hb2.size)
            have hn2 := blk_below n1.out hb2
            have x0 := blk_cell hn2 0
            have x1 := blk_cell hn2 1
            have N2 := Aside0.mk hn2
            clear hb2 hcf hn2
            go_wp2_with fail
            refine (Q0.out W2 HB2.out N2.out).mono ?_
            rintro e W3 ⟨rfl, hb3⟩
            have HB3 := Aside0.mk (HB2.out.trans (hb3.mono HS2.out))
            have HS3 := Aside0.mk (Nat.le_trans HS2.out hb3.size)
            have hn3 := blk_below N2.out hb3
            have x0 := blk_cell hn3 0
            have x1 := blk_cell hn3 1
            clear hb3 Q0
            go_wp2
            go_ret
            exact ⟨rfl, HB3.out⟩
          | false =>
            rw [hq2] at hcl
            have Q0 := Aside0.mk hcl
            clear hq2 hcl
            simp only [Bool.false_eq_true, if_false]
            go_enter Try.func30, Try.ntmps30
            go_wp2_with fail
            refine hcf.mono ?_
            rintro e W2 ⟨rfl, hb2⟩
            have HB2 := Aside0.mk (HB1.out.trans (hb2.mono HS1.out))
            have HS2 := Aside0.mk (Nat.le_trans HS1.out hb2.size)
            have hn2 := blk_below n1.out hb2
            have x0 := blk_cell hn2 0
            have x1 := blk_cell hn2 1
            have N2 := Aside0.mk hn2
            clear hb2 hcf hn2
            go_wp2_with fail
            refine (Q0.out W2 HB2.out N2.out).mono ?_
            rintro e W3 ⟨rfl, hb3⟩
            have HB3 := Aside0.mk (HB2.out.trans (hb3.mono HS2.out))
            have HS3 := Aside0.mk (Nat.le_trans HS2.out hb3.size)
            have hn3 := blk_below N2.out hb3
            have x0 := blk_cell hn3 0
            have x1 := blk_cell hn3 1
            clear hb3 Q0
            have hl16 : l1.length ≤ 16 := by have := H12.out; omega
            have hmul : IntKind.i64.wrap (2 * (l1.length : Int)) = 2 * (l1.length : Int) := IntWalk.i64_in _ (by omega)
            have HR3 := Aside0.mk (Kd.C_below HR1.out (below_drew HB3.out))
            have hN' : W3.cell? ⟨w.heap.size, 0, none⟩ = some (.slice A0 l0.length c0) ∧ W3.cell? ⟨w.heap.size, 1, none⟩ = some (.slice A1 l1.length c1) := ⟨x0, x1⟩
            clear x0 x1 hn3
            go_wp2_with fail
            refine wp_region_held_drew (S := (fun w' => w'.cell? ⟨w.heap.size, 0, none⟩ = some (.slice A0 l0.length c0) ∧ w'.cell? ⟨w.heap.size, 1, none⟩ = some (.slice A1 l1.length c1))) (by kernel_rfl) ?hS0 (fun hHeld => ?_)
            case hS0 => first | assumption | exact K2 | go_keep
            refine held_take 0 (some 26) (v := ?v0) rfl rfl (by kernel_rfl) (by kernel_rfl) (by kernel_rfl) (fun _ _ _ h => h) (by rfl) ?y0 (by assumption) ?_
            case y0 => ((intro w hSw); (try dsimp only at hSw); go_simp <;> (with_reducible rfl))
            try simp only [Act.put, List.setIfInBounds_toArray, List.set_cons_zero, List.set_cons_succ]
            refine held_take 3 (some 29) (v := ?v3) rfl rfl (by kernel_rfl) (by kernel_rfl) (by kernel_rfl) (fun _ _ _ h => h) (by rfl) ?y3 (by assumption) ?_
            case y3 => ((intro w hSw); (try dsimp only at hSw); go_simp <;> (with_reducible rfl))
            try simp only [Act.put, List.setIfInBounds_toArray, List.set_cons_zero, List.set_cons_succ]
            refine held_take 4 (some 30) (v := ?v4) rfl rfl (by kernel_rfl) (by kernel_rfl) (by kernel_rfl) (fun _ _ _ h => h) (by rfl) ?y4 (by assumption) ?_
            case y4 => ((intro w hSw); (try dsimp only at hSw); go_simp <;> (with_reducible rfl))
            try simp only [Act.put, List.setIfInBounds_toArray, List.set_cons_zero, List.set_cons_succ]
            refine held_take 5 (some 31) (v := ?v5) rfl rfl (by kernel_rfl) (by kernel_rfl) (by kernel_rfl) (fun _ _ _ h => h) (by rfl) ?y5 (by assumption) ?_
            case y5 => ((intro w hSw); (try dsimp only at hSw); go_simp <;> (with_reducible rfl))
            try simp only [Act.put, List.setIfInBounds_toArray, List.set_cons_zero, List.set_cons_succ]
            refine held_take 6 (some 32) (v := ?v6) rfl rfl (by kernel_rfl) (by kernel_rfl) (by kernel_rfl) (fun _ _ _ h => h) (by rfl) ?y6 (by assumption) ?_
            case y6 => ((intro w hSw); (try dsimp only at hSw); go_simp <;> (with_reducible rfl))
            try simp only [Act.put, List.setIfInBounds_toArray, List.set_cons_zero, List.set_cons_succ]
            refine wpAnyH_ready (rs := [1]) (by kernel_rfl) (by simp) ?_
            refine AllReadyH.cons rfl (fun K hK => ?_) AllReadyH.nil
            go_simp
            refine (joined_any A0 c0 l0 A1 c1 l1 _ HR3.out hc1).mono ?_
            rintro e w2 ⟨g, rfl, hm2, hg2, hb2⟩
            have K2 := cells2_below hN' hb2
            obtain ⟨es, ck, hes, hsz⟩ := run_mapLen w2 Try.underlying76 hm2
            have hlm := run_len_map (P := Try.prog) (w := w2) 76 3 g es ck (by kernel_rfl) hes
            rw [hsz] at hlm
            clear hes hm2 hsz
            have HB4 := Aside0.mk (HB3.out.trans ((show Below W3.drew.heap.size W3 w2 from ⟨hb2.os, hb2.tape, hb2.output, hb2.size, hb2.block⟩).mono HS3.out))
            refine hK.out _ _ ?hS2 (fun hHeld => ?_)
            case hS2 => first | assumption | exact K2 | go_keep
            clear hK K
            try simp only [Act.put, List.setIfInBounds_toArray, List.set_cons_zero, List.set_cons_succ]
            refine wpAnyH_ready (rs := [2]) (by kernel_rfl) (by simp) ?_
            refine AllReadyH.cons rfl (fun K hK => ?_) AllReadyH.nil
            go_simp
            refine hK.out _ _ ?hS3 (fun hHeld => ?_)
            case hS3 => first | assumption | exact K2 | go_keep
            clear hK K
            try simp only [Act.put, List.setIfInBounds_toArray, List.set_cons_zero, List.set_cons_succ]
            refine held_take 7 (some 33) (v := ?v7) rfl rfl (by kernel_rfl) (by kernel_rfl) (by kernel_rfl) (fun _ _ _ h => h) (by rfl) ?y7 (by assumption) ?_
            case y7 => ((intro w hSw); (try dsimp only at hSw); go_simp <;> (with_reducible rfl))
            try simp only [Act.put, List.setIfInBounds_toArray, List.set_cons_zero, List.set_cons_succ]
            refine held_take 8 (some 2) (v := ?v8) rfl rfl (by kernel_rfl) (by kernel_rfl) (by kernel_rfl) (fun _ _ _ h => h) (by rfl) ?y8 (by assumption) ?_
            case y8 => ((intro w hSw); (try dsimp only at hSw); go_simp <;> (with_reducible rfl))
            try simp only [Act.put, List.setIfInBounds_toArray, List.set_cons_zero, List.set_cons_succ]
            refine wpAnyH_done (by kernel_rfl) ?_ _
            go_wp2
            go_ret
            exact ⟨rfl, HB4.out⟩
end Go.Proofs.Ytkjighagiecbaaa.H
