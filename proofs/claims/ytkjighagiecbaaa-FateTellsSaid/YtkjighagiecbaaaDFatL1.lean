/- FatZ, Ex2, FatL1. -/
import Derived.Test.YtkjighagiecbaaaDFatY
import Derived.Test.YtkjighagiecbaaaDFatQ
/-! ### FatZ -/
namespace Go.Proofs.Ytkjighagiecbaaa.H
open Go.RowKit Go.Proofs.Ytkjighagiecbaaa.P Go.Proofs.YtkjighagiecbaaaW.PrintWords Go.Proofs.YtkjighagiecbaaaW.PrintLast Go.Proofs.YtkjighagiecbaaaW.PrintMore
set_option linter.unusedVariables false
set_option linter.unusedSimpArgs false
set_option maxRecDepth 20000
def netP : List Int := [2, 3, 2]
def netL : List S66 := [⟨⟨0, 1⟩, ⟨1, 0⟩⟩, ⟨⟨1, 1⟩, ⟨2, 0⟩⟩]
def netR : List Rul := [⟨1, 0, 0, 0, ⟨0, 99⟩, 1⟩, ⟨2, 1, 0, 0, ⟨0, 49⟩, 1⟩, ⟨3, 1, 0, 0, ⟨50, 59⟩, 0⟩, ⟨4, 2, 0, 0, ⟨0, 29⟩, 1⟩, ⟨5, 2, 0, 3, ⟨20, 24⟩, 0⟩]
theorem net_10 : trcP netL netR 10 0 = ([0, 1, 2], 3, (2, 1)) := by
  refine (trcP_tr netL netR 10 0).one (.go (by simp) (by decide) (.go ?_ ?_ ?_))
  · decide
  · decide
  · have h : Tr (stepP netL netR 10) (nxD (nxS netL)) [0, 1] 2 ([0, 1] ++ [2], (stepP netL netR 10 2).1, (stepP netL netR 10 2).2) := .stop (by decide) (by decide)
    rw [show stepP netL netR 10 2 = (3, (2, 1)) by decide] at h
    exact h
theorem net_55 : trcP netL netR 55 0 = ([0, 1, 0], 4, (0, 0)) := by
  refine (trcP_tr netL netR 55 0).one (.go (by simp) (by decide) (.go ?_ ?_ ?_))
  · decide
  · decide
  · exact .loop (by decide)
theorem net_22 : trcP netL netR 22 0 = ([0, 1, 2], 2, (0, 0)) := by
  refine (trcP_tr netL netR 22 0).one (.go (by simp) (by decide) (.go ?_ ?_ ?_))
  · decide
  · decide
  · have h : Tr (stepP netL netR 22) (nxD (nxS netL)) [0, 1] 2 ([0, 1] ++ [2], (stepP netL netR 22 2).1, (stepP netL netR 22 2).2) := .stop (by decide) (by decide)
    rw [show stepP netL netR 22 2 = (2, (0, 0)) by decide] at h
    exact h
theorem net_right : rightN netP netL netR = true := by decide
theorem net_any (w : World) : Calls Try.prog 22 #[] w fun e w' => ∃ A0 c0 A1 c1 A2 c2, e = .returned (netV A0 c0 netP A1 c1 netL A2 c2 netR) ∧ NetAt A0 c0 netP A1 c1 netL A2 c2 netR w' ∧ Below w.heap.size w w' := by
  refine (R.waystonelaw09_Net.calls netP netL netR w rfl).mono ?_
  rintro e w' ⟨v0, v1, v2, rfl, h0, h1, h2, hb⟩
  obtain ⟨A0, c0, rfl, hc0, hr0⟩ := Kd.R_reads h0
  obtain ⟨A1, c1, rfl, hc1, hr1⟩ := Kd.R_reads h1
  obtain ⟨A2, c2, rfl, hc2, hr2⟩ := Kd.R_reads h2
  exact ⟨A0, c0, A1, c1, A2, c2, rfl, ⟨hr0, hc0, hr1, hc1, hr2, hc2⟩, hb⟩
theorem rightQ_any {A0 : Option Addr} {c0 : Nat} {l0 : List Int} {A1 : Option Addr} {c1 : Nat} {l1 : List S66} {A2 : Option Addr} {c2 : Nat} {l2 : List Rul} (w : World) (hN : NetAt A0 c0 l0 A1 c1 l1 A2 c2 l2 w) :
    Calls Try.prog 15 #[netV A0 c0 l0 A1 c1 l1 A2 c2 l2] w fun e w' => e = .returned (.bool (rightN l0 l1 l2)) ∧ Below w.heap.size w w' := by
  obtain ⟨k, hk⟩ := (rightQ_ev l0 l1 l2 (Kd.C_max hN.r2)).rounds
  exact Q.fate_Right.calls k A0 c0 l0 A1 c1 l1 A2 c2 l2 _ w hN.r0 hN.c0 hN.r1 hN.c1 hN.r2 hN.c2 hk
set_option maxHeartbeats 4000000 in
theorem alive_any (w : World) : Calls Try.prog 9 #[] w fun e w' => e = .returned (.bool true) ∧ Below w.heap.size w w' := by
  have huN := Try.underlying28
  have huT := Try.underlying25
  have huR := Try.underlying35
  have huP := Try.underlying33
  go_enter Try.func9, Try.ntmps9
  go_wp2_with fail
  refine (net_any _).mono ?_
  rintro e N1 ⟨A0, c0, A1, c1, A2, c2, rfl, hN, hb⟩
  have hc := trace_told 0 10 N1 hN (by decide) (by decide)
  rw [show traceF netP netL netR 0 10 = ([0, 1, 2], 3, 2, 1, 0) from by unfold traceF; rw [if_neg (by decide), net_10]] at hc
  have HN1 := Aside0.mk hb
  clear hN hb
  go_wp2_with fail
  refine hc.mono ?_
  rintro e T1 ⟨v, rfl, hv, hb⟩
  obtain ⟨B1, e1, rfl, _, _⟩ := Kd.R_reads hv
  have HT1 := Aside0.mk (HN1.out.trans (hb.mono HN1.out.size))
  clear hc hv hb HN1
  simp only [List.length_cons, List.length_nil, Nat.reduceAdd]
  go_wp2_with fail
  have n1 := Aside0.mk (blk_new T1 (.cells #[.slice B1 3 e1, .int .i64 3, .int .i64 2, .int .i64 1] 35))
  have HB1 := Aside0.mk (HT1.out.alloc HT1.out.size (.cells #[.slice B1 3 e1, .int .i64 3, .int .i64 2, .int .i64 1] 35))
  clear HT1
  generalize (T1.alloc (.cells #[.slice B1 3 e1, .int .i64 3, .int .i64 2, .int .i64 1] 35)) = W1 at *
  generalize T1.heap.size = b1 at *
  refine (net_any _).mono ?_
  rintro e N2 ⟨A0, c0, A1, c1, A2, c2, rfl, hN, hb⟩
  have hc := trace_told 0 55 N2 hN (by decide) (by decide)
  rw [show traceF netP netL netR 0 55 = ([0, 1, 0], 4, 0, 0, 0) from by unfold traceF; rw [if_neg (by decide), net_55]] at hc
  have HN2 := Aside0.mk (HB1.out.trans (hb.mono HB1.out.size))
  have k1 := Aside0.mk (blk_below n1.out hb)
  clear HB1 n1
  clear hN hb
  go_wp2_with fail
  refine hc.mono ?_
  rintro e T2 ⟨v, rfl, hv, hb⟩
  obtain ⟨B2, e2, rfl, _, _⟩ := Kd.R_reads hv
  have HT2 := Aside0.mk (HN2.out.trans (hb.mono HN2.out.size))
  have m1 := Aside0.mk (blk_below k1.out hb)
  clear hc hv hb HN2 k1
  simp only [List.length_cons, List.length_nil, Nat.reduceAdd]
  go_wp2_with fail
  have n2 := Aside0.mk (blk_new T2 (.cells #[.slice B2 3 e2, .int .i64 4, .int .i64 0, .int .i64 0] 35))
  have HB2 := Aside0.mk (HT2.out.alloc HT2.out.size (.cells #[.slice B2 3 e2, .int .i64 4, .int .i64 0, .int .i64 0] 35))
  have n1' := Aside0.mk (blk_alloc m1.out (.cells #[.slice B2 3 e2, .int .i64 4, .int .i64 0, .int .i64 0] 35))
  clear HT2 m1
  have n1 := n1'
  clear n1'
  generalize (T2.alloc (.cells #[.slice B2 3 e2, .int .i64 4, .int .i64 0, .int .i64 0] 35)) = W2 at *
  generalize T2.heap.size = b2 at *
  refine (net_any _).mono ?_
  rintro e N3 ⟨A0, c0, A1, c1, A2, c2, rfl, hN, hb⟩
  have hc := trace_told 0 22 N3 hN (by decide) (by decide)
  rw [show traceF netP netL netR 0 22 = ([0, 1, 2], 2, 0, 0, 0) from by unfold traceF; rw [if_neg (by decide), net_22]] at hc
  have HN3 := Aside0.mk (HB2.out.trans (hb.mono HB2.out.size))
  have k1 := Aside0.mk (blk_below n1.out hb)
  have k2 := Aside0.mk (blk_below n2.out hb)
  clear HB2 n1 n2
  clear hN hb
  go_wp2_with fail
  refine hc.mono ?_
  rintro e T3 ⟨v, rfl, hv, hb⟩
  obtain ⟨B3, e3, rfl, _, _⟩ := Kd.R_reads hv
  have HT3 := Aside0.mk (HN3.out.trans (hb.mono HN3.out.size))
  have m1 := Aside0.mk (blk_below k1.out hb)
  have m2 := Aside0.mk (blk_below k2.out hb)
  clear hc hv hb HN3 k1 k2
  simp only [List.length_cons, List.length_nil, Nat.reduceAdd]
  go_wp2_with fail
  have n3 := Aside0.mk (blk_new T3 (.cells #[.slice B3 3 e3, .int .i64 2, .int .i64 0, .int .i64 0] 35))
  have HB3 := Aside0.mk (HT3.out.alloc HT3.out.size (.cells #[.slice B3 3 e3, .int .i64 2, .int .i64 0, .int .i64 0] 35))
  have n1' := Aside0.mk (blk_alloc m1.out (.cells #[.slice B3 3 e3, .int .i64 2, .int .i64 0, .int .i64 0] 35))
  have n2' := Aside0.mk (blk_alloc m2.out (.cells #[.slice B3 3 e3, .int .i64 2, .int .i64 0, .int .i64 0] 35))
  clear HT3 m1 m2
  have n1 := n1'
  clear n1'
  have n2 := n2'
  clear n2'
  generalize (T3.alloc (.cells #[.slice B3 3 e3, .int .i64 2, .int .i64 0, .int .i64 0] 35)) = W3 at *
  generalize T3.heap.size = b3 at *
  refine (net_any _).mono ?_
  rintro e N4 ⟨A0, c0, A1, c1, A2, c2, rfl, hN, hb⟩
  have hc := trace_told 3 22 N4 hN (by decide) (by decide)
  rw [show traceF netP netL netR 3 22 = ([], 0, 0, 0, 91) from by unfold traceF; rw [if_pos (by decide)]] at hc
  have HN4 := Aside0.mk (HB3.out.trans (hb.mono HB3.out.size))
  have k1 := Aside0.mk (blk_below n1.out hb)
  have k2 := Aside0.mk (blk_below n2.out hb)
  have k3 := Aside0.mk (blk_below n3.out hb)
  clear HB3 n1 n2 n3
  clear hN hb
  go_wp2_with fail
  refine hc.mono ?_
  rintro e T4 ⟨v, rfl, hv, hb⟩
  obtain ⟨B4, e4, rfl, _, _⟩ := Kd.R_reads hv
  have HT4 := Aside0.mk (HN4.out.trans (hb.mono HN4.out.size))
  have m1 := Aside0.mk (blk_below k1.out hb)
  have m2 := Aside0.mk (blk_below k2.out hb)
  have m3 := Aside0.mk (blk_below k3.out hb)
  clear hc hv hb HN4 k1 k2 k3
  simp only [List.length_cons, List.length_nil, Nat.reduceAdd]
  go_wp2_with fail
  have HB4 := Aside0.mk (HT4.out.alloc HT4.out.size (.cells #[.slice B4 0 e4, .int .i64 0, .int .i64 0, .int .i64 0] 35))
  have n1 := Aside0.mk (blk_alloc m1.out (.cells #[.slice B4 0 e4, .int .i64 0, .int .i64 0, .int .i64 0] 35))
  have n2 := Aside0.mk (blk_alloc m2.out (.cells #[.slice B4 0 e4, .int .i64 0, .int .i64 0, .int .i64 0] 35))
  have n3 := Aside0.mk (blk_alloc m3.out (.cells #[.slice B4 0 e4, .int .i64 0, .int .i64 0, .int .i64 0] 35))
  clear HT4 m1 m2 m3
  generalize (T4.alloc (.cells #[.slice B4 0 e4, .int .i64 0, .int .i64 0, .int .i64 0] 35)) = W4 at *
  refine (net_any _).mono ?_
  rintro e N5 ⟨A0, c0, A1, c1, A2, c2, rfl, hN, hb⟩
  have hc := rightQ_any (A0 := A0) (c0 := c0) (A1 := A1) (c1 := c1) (A2 := A2) (c2 := c2) N5 hN
  rw [net_right] at hc
  have HN5 := Aside0.mk (HB4.out.trans (hb.mono HB4.out.size))
  have k1 := Aside0.mk (blk_below n1.out hb)
  have k2 := Aside0.mk (blk_below n2.out hb)
  have k3 := Aside0.mk (blk_below n3.out hb)
  clear HB4 n1 n2 n3 hN hb
  go_wp2_with fail
  refine hc.mono ?_
  rintro e T5 ⟨rfl, hb⟩
  have HT5 := Aside0.mk (HN5.out.trans (hb.mono HN5.out.size))
  have q1 := blk_below k1.out hb
  have c1_0 := blk_cell q1 0
  have c1_1 := blk_cell q1 1
  have c1_2 := blk_cell q1 2
  have c1_3 := blk_cell q1 3
  have q2 := blk_below k2.out hb
  have c2_0 := blk_cell q2 0
  have c2_1 := blk_cell q2 1
  have c2_2 := blk_cell q2 2
  have c2_3 := blk_cell q2 3
  have q3 := blk_below k3.out hb
  have c3_0 := blk_cell q3 0
  have c3_1 := blk_cell q3 1
  have c3_2 := blk_cell q3 2
  have c3_3 := blk_cell q3 3
  clear hc hb q1 q2 q3
  go_wp2_with fail
  go_ret
  exact ⟨rfl, HT5.out⟩
end Go.Proofs.Ytkjighagiecbaaa.H
/-! ### Ex2 -/
namespace Go.Proofs.Ytkjighagiecbaaa.E
noncomputable section
open Go.Proofs.Ytkjighagiecbaaa.P
open Go.RowKit Go.Proofs.YtkjighagiecbaaaW.PrintWords Go.Proofs.YtkjighagiecbaaaW.PrintLast Go.Proofs.YtkjighagiecbaaaW.PrintMore
set_option linter.unusedVariables false
set_option linter.unusedSimpArgs false
noncomputable def waystoneref09_Right.f (l0_0 : List Int) (l0_1 : List (S66)) (l0_2 : List (S62)) : Option (Bool) := if l0_0.length ≤ 1000 ∧ l0_1.length ≤ 1000 ∧ Go.Proofs.Ytkjighagiecbaaa.H.idsB l0_2 = true then some (Go.Proofs.Ytkjighagiecbaaa.H.rightN l0_0 l0_1 l0_2) else none
theorem waystoneref09_Right.calls (A0_0 : Option Addr) (c0_0 : Nat) (l0_0 : List Int) (A0_1 : Option Addr) (c0_1 : Nat) (l0_1 : List (S66)) (A0_2 : Option Addr) (c0_2 : Nat) (l0_2 : List (S62)) (r : Bool) (w : World) (hr0_0 : Kd.C (Kd.int .i64) w A0_0 l0_0.length l0_0) (hc0_0 : l0_0.length ≤ c0_0) (hr0_1 : Kd.C k66 w A0_1 l0_1.length l0_1) (hc0_1 : l0_1.length ≤ c0_1) (hr0_2 : Kd.C k62 w A0_2 l0_2.length l0_2) (hc0_2 : l0_2.length ≤ c0_2) (h : waystoneref09_Right.f l0_0 l0_1 l0_2 = some r) :
    Calls Try.prog 14 #[.agg #[.slice A0_0 l0_0.length c0_0, .slice A0_1 l0_1.length c0_1, .slice A0_2 l0_2.length c0_2]] w fun e w' => e = .returned (.bool r) ∧ Below w.heap.size w w' := by
  unfold waystoneref09_Right.f at h
  by_cases hg : l0_0.length ≤ 1000 ∧ l0_1.length ≤ 1000 ∧ Go.Proofs.Ytkjighagiecbaaa.H.idsB l0_2 = true
  · rw [if_pos hg] at h
    cases h
    obtain ⟨k, hk⟩ := (Go.Proofs.Ytkjighagiecbaaa.H.rightR_ev l0_0 l0_1 l0_2 hg.1 hg.2.1 (Kd.C_max hr0_2) (Go.Proofs.Ytkjighagiecbaaa.H.idsB_i64 hg.2.2)).rounds
    exact Go.Proofs.Ytkjighagiecbaaa.R.waystoneref09_Right.calls k A0_0 c0_0 l0_0 A0_1 c0_1 l0_1 A0_2 c0_2 l0_2 _ w hr0_0 hc0_0 hr0_1 hc0_1 hr0_2 hc0_2 hk
  · rw [if_neg hg] at h
    cases h
noncomputable def fate_Trace.f (l0_0 : List Int) (l0_1 : List (S66)) (l0_2 : List (S62)) (a1 : Int) (a2 : Int) : Option (List Int × Int × Int × Int × Int) := if l0_2.length * 48 ≤ 140737488355328 ∧ l0_1.length ≤ 4398046511104 then some (Go.Proofs.Ytkjighagiecbaaa.H.traceF l0_0 l0_1 l0_2 a1 a2) else none
theorem fate_Trace.calls (A0_0 : Option Addr) (c0_0 : Nat) (l0_0 : List Int) (A0_1 : Option Addr) (c0_1 : Nat) (l0_1 : List (S66)) (A0_2 : Option Addr) (c0_2 : Nat) (l0_2 : List (S62)) (a1 : Int) (a2 : Int) (r1 : List Int) (r2 : Int) (r3 : Int) (r4 : Int) (r5 : Int) (w : World) (hr0_0 : Kd.C (Kd.int .i64) w A0_0 l0_0.length l0_0) (hc0_0 : l0_0.length ≤ c0_0) (hr0_1 : Kd.C k66 w A0_1 l0_1.length l0_1) (hc0_1 : l0_1.length ≤ c0_1) (hr0_2 : Kd.C k62 w A0_2 l0_2.length l0_2) (hc0_2 : l0_2.length ≤ c0_2) (h : fate_Trace.f l0_0 l0_1 l0_2 a1 a2 = some (r1, r2, r3, r4, r5)) :
    Calls Try.prog 8 #[.agg #[.slice A0_0 l0_0.length c0_0, .slice A0_1 l0_1.length c0_1, .slice A0_2 l0_2.length c0_2], .int .i64 a1, .int .u32 a2] w fun e w' => ∃ v0_ : Value, e = .returned (.tuple #[.agg #[v0_, .int .i64 r2, .int .i64 r3, .int .i64 r4], .int .i64 r5]) ∧ Kd.R (Kd.int .i64) 3 w' w.heap.size (fun _ => True) v0_ r1 ∧ Below w.heap.size w w' := by
  unfold fate_Trace.f at h
  by_cases hg : l0_2.length * 48 ≤ 140737488355328 ∧ l0_1.length ≤ 4398046511104
  · rw [if_pos hg] at h
    have h2 := Option.some.inj h
    have h3 := Go.Proofs.Ytkjighagiecbaaa.H.trace_told a1 a2 w ⟨hr0_0, hc0_0, hr0_1, hc0_1, hr0_2, hc0_2⟩ hg.1 hg.2
    rw [h2] at h3
    exact h3
  · rw [if_neg hg] at h
    cases h
noncomputable def fate_Right.f (l0_0 : List Int) (l0_1 : List (S66)) (l0_2 : List (S62)) : Option (Bool) := some (Go.Proofs.Ytkjighagiecbaaa.H.rightN l0_0 l0_1 l0_2)
theorem fate_Right.calls (A0_0 : Option Addr) (c0_0 : Nat) (l0_0 : List Int) (A0_1 : Option Addr) (c0_1 : Nat) (l0_1 : List (S66)) (A0_2 : Option Addr) (c0_2 : Nat) (l0_2 : List (S62)) (r : Bool) (w : World) (hr0_0 : Kd.C (Kd.int .i64) w A0_0 l0_0.length l0_0) (hc0_0 : l0_0.length ≤ c0_0) (hr0_1 : Kd.C k66 w A0_1 l0_1.length l0_1) (hc0_1 : l0_1.length ≤ c0_1) (hr0_2 : Kd.C k62 w A0_2 l0_2.length l0_2) (hc0_2 : l0_2.length ≤ c0_2) (h : fate_Right.f l0_0 l0_1 l0_2 = some r) :
    Calls Try.prog 15 #[.agg #[.slice A0_0 l0_0.length c0_0, .slice A0_1 l0_1.length c0_1, .slice A0_2 l0_2.length c0_2]] w fun e w' => e = .returned (.bool r) ∧ Below w.heap.size w w' := by
  cases h
  obtain ⟨k, hk⟩ := (Go.Proofs.Ytkjighagiecbaaa.H.rightQ_ev l0_0 l0_1 l0_2 (Kd.C_max hr0_2)).rounds
  exact Go.Proofs.Ytkjighagiecbaaa.Q.fate_Right.calls k A0_0 c0_0 l0_0 A0_1 c0_1 l0_1 A0_2 c0_2 l0_2 _ w hr0_0 hc0_0 hr0_1 hc0_1 hr0_2 hc0_2 hk
def waystonelaw09_alive.f : Option Bool := some true
theorem waystonelaw09_alive.calls (r : Bool) (w : World) (h : waystonelaw09_alive.f = some r) : Calls Try.prog 9 #[] w fun e w' => e = .returned (.bool r) ∧ Below w.heap.size w w' := by
  cases h
  exact Go.Proofs.Ytkjighagiecbaaa.H.alive_any w
def fate_Same.f (l0_0 : List Int) (a0_1 : Int) (a0_2 : Int) (a0_3 : Int) (l1_0 : List Int) (a1_1 : Int) (a1_2 : Int) (a1_3 : Int) : Option (Bool) := some (Go.Proofs.Ytkjighagiecbaaa.H.sameT l0_0 a0_1 a0_2 a0_3 l1_0 a1_1 a1_2 a1_3)
theorem fate_Same.calls (A0_0 : Option Addr) (c0_0 : Nat) (l0_0 : List Int) (a0_1 : Int) (a0_2 : Int) (a0_3 : Int) (A1_0 : Option Addr) (c1_0 : Nat) (l1_0 : List Int) (a1_1 : Int) (a1_2 : Int) (a1_3 : Int) (r : Bool) (w : World) (hr0_0 : Kd.C (Kd.int .i64) w A0_0 l0_0.length l0_0) (hc0_0 : l0_0.length ≤ c0_0) (hr1_0 : Kd.C (Kd.int .i64) w A1_0 l1_0.length l1_0) (hc1_0 : l1_0.length ≤ c1_0) (h : fate_Same.f l0_0 a0_1 a0_2 a0_3 l1_0 a1_1 a1_2 a1_3 = some r) :
    Calls Try.prog 13 #[.agg #[.slice A0_0 l0_0.length c0_0, .int .i64 a0_1, .int .i64 a0_2, .int .i64 a0_3], .agg #[.slice A1_0 l1_0.length c1_0, .int .i64 a1_1, .int .i64 a1_2, .int .i64 a1_3]] w fun e w' => e = .returned (.bool r) ∧ Below w.heap.size w w' := by
  cases h
  obtain ⟨k, hk⟩ := (Go.Proofs.Ytkjighagiecbaaa.H.sameP_ev l0_0 a0_1 a0_2 a0_3 l1_0 a1_1 a1_2 a1_3 (Kd.C_max hr0_0)).rounds
  exact Go.Proofs.Ytkjighagiecbaaa.R.fate_Same.calls k A0_0 c0_0 l0_0 a0_1 a0_2 a0_3 A1_0 c1_0 l1_0 a1_1 a1_2 a1_3 _ w hr0_0 hc0_0 hr1_0 hc1_0 hk
end
end Go.Proofs.Ytkjighagiecbaaa.E
/-! ### FatL1 -/
namespace Go.Proofs.Ytkjighagiecbaaa.H
open Go.RowKit Go.Proofs.Ytkjighagiecbaaa.P Go.Proofs.YtkjighagiecbaaaW.PrintWords Go.Proofs.YtkjighagiecbaaaW.PrintLast Go.Proofs.YtkjighagiecbaaaW.PrintMore
set_option linter.unusedVariables false
set_option linter.unusedSimpArgs false
theorem sameT_self (x : List Int) (f a b : Int) : sameT x f a b x f a b = true := by simp [sameT]
theorem Tr.all {st : Int → Int × (Int × Int)} {nx : Int × Int → Int} {Q : Int → Prop} (hQ : ∀ x, Q x → (st x).1 = 4 → Q (nx (st x).2)) {seen : List Int} {d : Int} {R : Trc} (t : Tr st nx seen d R) : (∀ x ∈ seen, Q x) → Q d → ∀ x ∈ R.1, Q x := by
  have snoc : ∀ {seen : List Int} {d : Int}, (∀ x ∈ seen, Q x) → Q d → ∀ x ∈ seen ++ [d], Q x := by
    intro seen d hs hd x hx
    rw [List.mem_append, List.mem_singleton] at hx
    rcases hx with hx | rfl
    · exact hs x hx
    · exact hd
  induction t with
  | loop h => exact fun hs hd => snoc hs hd
  | stop h h4 => exact fun hs hd => snoc hs hd
  | go h h4 t ih => exact fun hs hd => ih (snoc hs hd) (hQ _ hd h4)
theorem traceE (l0 : List Int) (l1 : List S66) (l2 : List Rul) (h : sizesN l1 l2) (d a : Int) : E.fate_Trace.f l0 l1 l2 d a = some (traceF l0 l1 l2 d a) := by
  unfold E.fate_Trace.f
  rw [if_pos (show _ ∧ _ from h)]
theorem traceF_len (l0 : List Int) (l1 : List S66) (l2 : List Rul) (d a : Int) (h : sizesN l1 l2) : (traceF l0 l1 l2 d a).1.length ≤ 9223372036854775807 := by
  unfold traceF
  split
  · simp
  · have := trcP_len l1 l2 a d
    have := h.2
    show (trcP l1 l2 a d).1.length ≤ _
    omega
theorem traceF_head (l0 : List Int) (l1 : List S66) (l2 : List Rul) (d a : Int) (h : (traceF l0 l1 l2 d a).2.2.2.2 = 0) : ∃ rest, (traceF l0 l1 l2 d a).1 = d :: rest := by
  unfold traceF at h ⊢
  split at h
  · cases h
  · rename_i hd
    rw [if_neg hd]
    obtain ⟨rest, e⟩ := (trcP_tr l1 l2 a d).chain.1
    exact ⟨rest, e⟩
end Go.Proofs.Ytkjighagiecbaaa.H
