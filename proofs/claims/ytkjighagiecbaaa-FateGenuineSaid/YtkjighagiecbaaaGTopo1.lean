/- Reg, Topo1. -/
import Derived.Deep.RegionHeld3
import Derived.Test.YtkjighagiecbaaaGMap
import Derived.Test.YtkjighagiecbaaaGFatR
/-! ### Reg -/
namespace Go.Proofs.Ytkjighagiecbaaa.H
section
variable {P : Program} {ops : Array Oper} {Q : Exit → Act → World → Prop} {md : Region.Mode} {S : World → Prop}
theorem held_take (i : Nat) (d : Option Tmp) {oi : Oper} {v : Value} {fuel : Nat} {listed : Array Bool} {a : Act} {w : World} (hi : ops[i]? = some oi) (hd : oi.dst = d)
    (hs : Region.noSelect ops = true) (hf : Region.free md ops listed i = true) (hr : (Region.ready md ops listed).contains i = true)
    (hQ : ∀ c a w, Q (.panic c) (a.put d v) w → Q (.panic c) a w) (hw : Region.wanted oi (yielded ops a.tmps) = true) (hy : ∀ w, S w → (execOp a.eval oi).run P w = .ok (.value v) w) (hS : S w)
    (h : wpAnyH P md ops Q S fuel (listed.setIfInBounds i true) (a.put d v) w) : wpAnyH P md ops Q S (fuel + 1) listed a w := by
  subst hd
  exact wpAnyH_take hi hs hf hr hQ (.inl ⟨hw, hy⟩) hS h
end
end Go.Proofs.Ytkjighagiecbaaa.H
/-! ### Topo1 -/
namespace Go.Proofs.Ytkjighagiecbaaa.H
open Go.RowKit Go.Proofs.Ytkjighagiecbaaa.P Go.Proofs.YtkjighagiecbaaaW.PrintWords Go.Proofs.YtkjighagiecbaaaW.PrintLast Go.Proofs.YtkjighagiecbaaaW.PrintMore
set_option linter.unusedVariables false
set_option linter.unusedSimpArgs false
instance : DecidableEq S33 := fun x y => decidable_of_iff (x.f0 = y.f0 ∧ x.f1 = y.f1) ⟨fun h => by cases x; cases y; simp_all, fun h => by subst h; exact ⟨rfl, rfl⟩⟩
def encP (p : S33) : Value := .agg #[.int .i64 p.f0, .int .i64 p.f1]
theorem eqP (d : Nat) (w : World) (x0 y0 : Int) (x1 y1 : Int) :
    (Op.equalIn (d + 2) 33 (.agg #[.int .i64 x0, .int .i64 x1]) (.agg #[.int .i64 y0, .int .i64 y1])).run Try.prog w = .ok (x0 == y0 && (x1 == y1)) w := by
  refine eqA_of Try.underlying33 (by kernel_rfl) ?_
  refine eqf_cons (by rfl) (by go_simp; rfl) (by go_simp; rfl) (by go_simp) ?_
  exact eqf_last (by rfl) (by go_simp; rfl) (by go_simp; rfl) (by go_simp)
theorem eqP_dec (x y : S33) : (x.f0 == y.f0 && (x.f1 == y.f1)) = decide (x = y) := by
  cases x; cases y
  simp [Bool.decide_and]
  rfl
theorem keyP : KeyOk Try.prog 33 encP := by
  refine ⟨fun e x w => rfl, fun x y w => ?_, ⟨_, Try.underlying33, .inl fun x y => rfl⟩, fun x => ?_⟩
  · rw [← eqP_dec]
    exact eqP 9998 w x.f0 y.f0 x.f1 y.f1
  · simp [encP, Instr.sameBits]
def jstep (L : List (S33 × S33)) (l : S66) : List (S33 × S33) := upd (upd L l.f0 l.f1) l.f1 l.f0
def joinL (ls : List S66) : List (S33 × S33) := ls.foldl jstep []
theorem joined_any (A0 : Option Addr) (c0 : Nat) (l0 : List Int) (A1 : Option Addr) (c1 : Nat) (l1 : List S66) (w : World) (hr1 : Kd.C k66 w A1 l1.length l1) (hc1 : l1.length ≤ c1) :
    Calls Try.prog 42 #[.agg #[.slice A0 l0.length c0, .slice A1 l1.length c1]] w fun e w' => ∃ g, e = .returned (.map (some g)) ∧ MapAt w' g encP encP (joinL l1) ∧ w.heap.size ≤ g ∧ Below w.heap.size w w' := by
  have hmm := @run_makeMap Try.prog
  have huTop := Try.underlying25
  have hu66 := Try.underlying66
  have HR := Aside0.mk hr1
  have hl := Kd.C_max hr1
  clear hr1
  go_enter Try.func42, Try.ntmps42
  go_wp2
  go_loopw [10] (fun i wr => ∃ j : Nat, j ≤ l1.length ∧ i = .int .i64 j ∧ MapAt wr (w.heap.size + 1) encP encP (joinL (l1.take j)) ∧ Below w.heap.size w wr) (fun i _ => l1.length - (intOf i).toNat)
  case atStart => exact ⟨0, Nat.zero_le _, rfl, by have h := MapAt.made (w.alloc (.cells #[.slice A0 l0.length c0, .slice A1 l1.length c1] 25)) encP encP; simpa [joinL] using h, ((Below.refl _ _).alloc (Nat.le_refl _) _).alloc (by simp) _⟩
  case round =>
    obtain ⟨j, hj, rfl, hm, hb⟩ := hrel
    by_cases hlt : j < l1.length
    · obtain ⟨ad, e, x0, x1, x2, x3⟩ := at_T66 (Kd.C_below HR.out hb) (j : Int) (by omega) (by omega)
      cases e
      rw [Int.toNat_natCast] at x0 x1 x2 x3
      go_wp2_with fail
      have hc0 := heap_alloc_new wr (.cells #[Value.int .i64 (rd_T66 l1 ↑j).f0.f0, Value.int .i64 (rd_T66 l1 ↑j).f0.f1, Value.int .i64 (rd_T66 l1 ↑j).f1.f0, Value.int .i64 (rd_T66 l1 ↑j).f1.f1] 66)
      have hm1 := hm.alloc (.cells #[Value.int .i64 (rd_T66 l1 ↑j).f0.f0, Value.int .i64 (rd_T66 l1 ↑j).f0.f1, Value.int .i64 (rd_T66 l1 ↑j).f1.f0, Value.int .i64 (rd_T66 l1 ↑j).f1.f1] 66)
      have hb1 := hb.alloc hb.size (.cells #[Value.int .i64 (rd_T66 l1 ↑j).f0.f0, Value.int .i64 (rd_T66 l1 ↑j).f0.f1, Value.int .i64 (rd_T66 l1 ↑j).f1.f0, Value.int .i64 (rd_T66 l1 ↑j).f1.f1] 66)
      have hne : wr.heap.size ≠ w.heap.size + 1 := by have := hm.lt; omega
      have HT : Aside0 (joinL (l1.take (j + 1)) = upd (upd (joinL (l1.take j)) (rd_T66 l1 ↑j).f0 (rd_T66 l1 ↑j).f1) (rd_T66 l1 ↑j).f1 (rd_T66 l1 ↑j).f0) := ⟨by
        rw [List.take_succ_eq_append_getElem hlt, joinL, List.foldl_append]
        simp only [List.foldl_cons, List.foldl_nil, jstep, rd_T66, Int.toNat_natCast, List.getD_eq_getElem?_getD, List.getElem?_eq_getElem hlt, Option.getD_some]
        rfl⟩
      generalize wr.heap.size = B at *
      generalize rd_T66 l1 ↑j = lk at *
      generalize wr.alloc (.cells #[Value.int .i64 lk.f0.f0, Value.int .i64 lk.f0.f1, Value.int .i64 lk.f1.f0, Value.int .i64 lk.f1.f1] 66) = wB at *
      obtain ⟨w2, hu1, hm2, hk2⟩ := run_upd (encV := encP) keyP Try.underlying76 wB.drew hm1.drew lk.f0 lk.f1
      obtain ⟨w3, hu2, hm3, hk3⟩ := run_upd (encV := encP) keyP Try.underlying76 w2 hm2 lk.f1 lk.f0
      have K0 : wB.drew.cell? ⟨B, 0, none⟩ = some (.int .i64 lk.f0.f0) ∧ wB.drew.cell? ⟨B, 1, none⟩ = some (.int .i64 lk.f0.f1) ∧ wB.drew.cell? ⟨B, 2, none⟩ = some (.int .i64 lk.f1.f0) ∧ wB.drew.cell? ⟨B, 3, none⟩ = some (.int .i64 lk.f1.f1) := ⟨blk_cell hc0 0, blk_cell hc0 1, blk_cell hc0 2, blk_cell hc0 3⟩
      have K2 : w2.cell? ⟨B, 0, none⟩ = some (.int .i64 lk.f0.f0) ∧ w2.cell? ⟨B, 1, none⟩ = some (.int .i64 lk.f0.f1) ∧ w2.cell? ⟨B, 2, none⟩ = some (.int .i64 lk.f1.f0) ∧ w2.cell? ⟨B, 3, none⟩ = some (.int .i64 lk.f1.f1) := ⟨(hk2.cell hne).trans K0.1, (hk2.cell hne).trans K0.2.1, (hk2.cell hne).trans K0.2.2.1, (hk2.cell hne).trans K0.2.2.2⟩
      have K3 : w3.cell? ⟨B, 0, none⟩ = some (.int .i64 lk.f0.f0) ∧ w3.cell? ⟨B, 1, none⟩ = some (.int .i64 lk.f0.f1) ∧ w3.cell? ⟨B, 2, none⟩ = some (.int .i64 lk.f1.f0) ∧ w3.cell? ⟨B, 3, none⟩ = some (.int .i64 lk.f1.f1) := ⟨(hk3.cell hne).trans K2.1, (hk3.cell hne).trans K2.2.1, (hk3.cell hne).trans K2.2.2.1, (hk3.cell hne).trans K2.2.2.2⟩
      have HB3 := Aside0.mk ((hk2.trans hk3).below hb1.drew (by omega))
      have HM3 := Aside0.mk hm3
      simp only [encP] at hu1 hu2
      clear hm hm1 hm2 hm3 hb hb1 hc0 hk2 hk3 x0 x1 x2 x3 hne
      refine wp_region_held_drew (S := (fun w' => w'.cell? ⟨B, 0, none⟩ = some (.int .i64 lk.f0.f0) ∧ w'.cell? ⟨B, 1, none⟩ = some (.int .i64 lk.f0.f1) ∧ w'.cell? ⟨B, 2, none⟩ = some (.int .i64 lk.f1.f0) ∧ w'.cell? ⟨B, 3, none⟩ = some (.int .i64 lk.f1.f1))) (by kernel_rfl) ?hS0 (fun hHeld => ?_)
      case hS0 => first | exact K0 | exact K2 | exact K3
      refine held_take 0 (some 14) (v := ?v0) rfl rfl (by kernel_rfl) (by kernel_rfl) (by kernel_rfl) (fun _ _ _ h => h) (by rfl) ?y0 (by assumption) ?_
      case y0 => ((intro w hSw); (try dsimp only at hSw); go_simp <;> (with_reducible rfl))
      try simp only [Act.put, List.setIfInBounds_toArray, List.set_cons_zero, List.set_cons_succ]
      refine held_take 1 (some 15) (v := ?v1) rfl rfl (by kernel_rfl) (by kernel_rfl) (by kernel_rfl) (fun _ _ _ h => h) (by rfl) ?y1 (by assumption) ?_
      case y1 => ((intro w hSw); (try dsimp only at hSw); go_simp <;> (with_reducible rfl))
      try simp only [Act.put, List.setIfInBounds_toArray, List.set_cons_zero, List.set_cons_succ]
      refine held_take 2 (some 16) (v := ?v2) rfl rfl (by kernel_rfl) (by kernel_rfl) (by kernel_rfl) (fun _ _ _ h => h) (by rfl) ?y2 (by assumption) ?_
      case y2 => ((intro w hSw); (try dsimp only at hSw); go_simp <;> (with_reducible rfl))
      try simp only [Act.put, List.setIfInBounds_toArray, List.set_cons_zero, List.set_cons_succ]
      refine held_take 3 (some 17) (v := ?v3) rfl rfl (by kernel_rfl) (by kernel_rfl) (by kernel_rfl) (fun _ _ _ h => h) (by rfl) ?y3 (by assumption) ?_
      case y3 => ((intro w hSw); (try dsimp only at hSw); go_simp <;> (with_reducible rfl))
      try simp only [Act.put, List.setIfInBounds_toArray, List.set_cons_zero, List.set_cons_succ]
      refine held_take 4 (some 18) (v := ?v4) rfl rfl (by kernel_rfl) (by kernel_rfl) (by kernel_rfl) (fun _ _ _ h => h) (by rfl) ?y4 (by assumption) ?_
      case y4 => ((intro w hSw); (try dsimp only at hSw); go_simp <;> (with_reducible rfl))
      try simp only [Act.put, List.setIfInBounds_toArray, List.set_cons_zero, List.set_cons_succ]
      refine held_take 5 (some 19) (v := ?v5) rfl rfl (by kernel_rfl) (by kernel_rfl) (by kernel_rfl) (fun _ _ _ h => h) (by rfl) ?y5 (by assumption) ?_
      case y5 => ((intro w hSw); (try dsimp only at hSw); go_simp <;> (with_reducible rfl))
      try simp only [Act.put, List.setIfInBounds_toArray, List.set_cons_zero, List.set_cons_succ]
      refine held_take 6 (some 20) (v := ?v6) rfl rfl (by kernel_rfl) (by kernel_rfl) (by kernel_rfl) (fun _ _ _ h => h) (by rfl) ?y6 (by assumption) ?_
      case y6 => ((intro w hSw); (try dsimp only at hSw); go_simp <;> (with_reducible rfl))
      try simp only [Act.put, List.setIfInBounds_toArray, List.set_cons_zero, List.set_cons_succ]
      refine held_take 7 (some 21) (v := ?v7) rfl rfl (by kernel_rfl) (by kernel_rfl) (by kernel_rfl) (fun _ _ _ h => h) (by rfl) ?y7 (by assumption) ?_
      case y7 => ((intro w hSw); (try dsimp only at hSw); go_simp <;> (with_reducible rfl))
      try simp only [Act.put, List.setIfInBounds_toArray, List.set_cons_zero, List.set_cons_succ]
      refine held_take 8 (some 22) (v := ?v8) rfl rfl (by kernel_rfl) (by kernel_rfl) (by kernel_rfl) (fun _ _ _ h => h) (by rfl) ?y8 (by assumption) ?_
      case y8 => ((intro w hSw); (try dsimp only at hSw); go_simp <;> (with_reducible rfl))
      try simp only [Act.put, List.setIfInBounds_toArray, List.set_cons_zero, List.set_cons_succ]
      refine held_take 9 (some 23) (v := ?v9) rfl rfl (by kernel_rfl) (by kernel_rfl) (by kernel_rfl) (fun _ _ _ h => h) (by rfl) ?y9 (by assumption) ?_
      case y9 => ((intro w hSw); (try dsimp only at hSw); go_simp <;> (with_reducible rfl))
      try simp only [Act.put, List.setIfInBounds_toArray, List.set_cons_zero, List.set_cons_succ]
      refine wpAnyH_ready (rs := [10]) (by kernel_rfl) (by simp) ?_
      refine AllReadyH.cons rfl (fun K hK => ?_) AllReadyH.nil
      go_simp
      refine hK.out _ _ ?hS11 (fun hHeld => ?_)
      case hS11 => first | exact K0 | exact K2 | exact K3
      clear hK K
      try simp only [Act.put, List.setIfInBounds_toArray, List.set_cons_zero, List.set_cons_succ]
      refine wpAnyH_ready (rs := [11]) (by kernel_rfl) (by simp) ?_
      refine AllReadyH.cons rfl (fun K hK => ?_) AllReadyH.nil
      go_simp
      refine hK.out _ _ ?hS12 (fun hHeld => ?_)
      case hS12 => first | exact K0 | exact K2 | exact K3
      clear hK K
      try simp only [Act.put, List.setIfInBounds_toArray, List.set_cons_zero, List.set_cons_succ]
      refine wpAnyH_done (by kernel_rfl) ?_ _
      go_wp2
      go_roundw
      case rel => exact ⟨j + 1, by omega, by go_num, by rw [HT.out]; exact HM3.out, HB3.out⟩
      case measure => simp [intOf]; omega
    · obtain rfl : j = l1.length := by omega
      go_wp2
      go_ret
      exact ⟨_, rfl, by rw [List.take_length] at hm; exact hm, by omega, hb⟩
end Go.Proofs.Ytkjighagiecbaaa.H
