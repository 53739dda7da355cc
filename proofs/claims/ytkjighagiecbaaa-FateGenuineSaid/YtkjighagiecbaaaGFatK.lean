/- FatK. -/
import Derived.Test.YtkjighagiecbaaaGTopo5
import Derived.Test.YtkjighagiecbaaaGTopo4b
import Derived.Test.YtkjighagiecbaaaGFatN
import Derived.BigRegion
namespace Go.Proofs.Ytkjighagiecbaaa.H
open Go.RowKit Go.Proofs.Ytkjighagiecbaaa.P Go.Proofs.YtkjighagiecbaaaW.PrintWords Go.Proofs.YtkjighagiecbaaaW.PrintLast Go.Proofs.YtkjighagiecbaaaW.PrintMore
set_option linter.unusedVariables false
set_option linter.unusedSimpArgs false
set_option maxRecDepth 20000
def nxS (l1 : List S66) (p : Int × Int) : Option (Int × Int) := if nextB l1 ⟨p.1, p.2⟩ = true then some ((nextQ l1 ⟨p.1, p.2⟩).f0, (nextQ l1 ⟨p.1, p.2⟩).f1) else none
def stepP (l1 : List S66) (l2 : List Rul) (a d : Int) : Int × (Int × Int) := stepS matchP denyP l2 (nxS l1) a d
theorem nxS_some (l1 : List S66) (p : Int × Int) : (nxS l1 p).isSome = nextB l1 ⟨p.1, p.2⟩ := by
  unfold nxS
  cases nextB l1 ⟨p.1, p.2⟩ <;> rfl
structure NetAt (A0 : Option Addr) (c0 : Nat) (l0 : List Int) (A1 : Option Addr) (c1 : Nat) (l1 : List S66) (A2 : Option Addr) (c2 : Nat) (l2 : List Rul) (w : World) : Prop where
  r0 : Kd.C (Kd.int .i64) w A0 l0.length l0
  c0 : l0.length ≤ c0
  r1 : Kd.C k66 w A1 l1.length l1
  c1 : l1.length ≤ c1
  r2 : Kd.C k62 w A2 l2.length l2
  c2 : l2.length ≤ c2
section
variable {A0 : Option Addr} {c0 : Nat} {l0 : List Int} {A1 : Option Addr} {c1 : Nat} {l1 : List S66} {A2 : Option Addr} {c2 : Nat} {l2 : List Rul}
theorem NetAt.below {w w' : World} (h : NetAt A0 c0 l0 A1 c1 l1 A2 c2 l2 w) (hb : Below w.heap.size w w') : NetAt A0 c0 l0 A1 c1 l1 A2 c2 l2 w' :=
  ⟨Kd.C_below h.r0 hb, h.c0, Kd.C_below h.r1 hb, h.c1, Kd.C_below h.r2 hb, h.c2⟩
abbrev netV (A0 : Option Addr) (c0 : Nat) (l0 : List Int) (A1 : Option Addr) (c1 : Nat) (l1 : List S66) (A2 : Option Addr) (c2 : Nat) (l2 : List Rul) : Value := .agg #[.slice A0 l0.length c0, .slice A1 l1.length c1, .slice A2 l2.length c2]
set_option maxHeartbeats 4000000 in
theorem stepP_walk {mt dn : Int → Int → Rul → Bool} (d a : Int) (w : World) (h : NetAt A0 c0 l0 A1 c1 l1 A2 c2 l2 w)
    (hD : ∀ W, NetAt A0 c0 l0 A1 c1 l1 A2 c2 l2 W → Calls Try.prog 23 #[.slice A2 l2.length c2, .int .i64 d, .int .u32 a] W fun e w' => e = .returned (.bool (deniedS dn l2 a d)) ∧ Below W.heap.size W w')
    (hM : ∀ W, NetAt A0 c0 l0 A1 c1 l1 A2 c2 l2 W → Calls Try.prog 24 #[.slice A2 l2.length c2, .int .i64 d, .int .u32 a] W fun e w' => FirstAt (firstS (mt d a) l2) W.heap.size W e w')
    (hX : ∀ W x y, NetAt A0 c0 l0 A1 c1 l1 A2 c2 l2 W → Calls Try.prog 25 #[.agg #[.slice A0 l0.length c0, .slice A1 l1.length c1], .agg #[.int .i64 x, .int .i64 y]] W fun e w' => ∃ q0 q1, e = .returned (.tuple #[.agg #[.int .i64 q0, .int .i64 q1], .bool (nextB l1 ⟨x, y⟩)]) ∧ Below W.heap.size W w') :
    Calls Try.prog 10 #[netV A0 c0 l0 A1 c1 l1 A2 c2 l2, .int .i64 d, .int .u32 a] w fun e w' => e = .returned (.tuple #[.int .i64 (stepS mt dn l2 (nxS l1) a d).1, .agg #[.int .i64 (stepS mt dn l2 (nxS l1) a d).2.1, .int .i64 (stepS mt dn l2 (nxS l1) a d).2.2]]) ∧ Below w.heap.size w w' := by
  have huN := Try.underlying28
  have huT := Try.underlying25
  have huR := Try.underlying62
  have huP := Try.underlying33
  have HN := Aside0.mk h
  have k1 := blk_alloc (blk_new w (.cells #[.slice A0 l0.length c0, .slice A1 l1.length c1, .slice A2 l2.length c2] 28)) (.cells #[.int .i64 0, .int .i64 0] 33)
  have k2 : ((w.alloc (.cells #[.slice A0 l0.length c0, .slice A1 l1.length c1, .slice A2 l2.length c2] 28)).alloc (.cells #[.int .i64 0, .int .i64 0] 33)).heap[w.heap.size + 1]? = some (.cells #[.int .i64 0, .int .i64 0] 33 (0, 0)) := by
    have h := blk_new (w.alloc (.cells #[.slice A0 l0.length c0, .slice A1 l1.length c1, .slice A2 l2.length c2] 28)) (.cells #[.int .i64 0, .int .i64 0] 33)
    rw [World.size_alloc] at h
    exact h
  have HB1 := Aside0.mk (((Below.refl w.heap.size w).alloc (Nat.le_refl _) (.cells #[.slice A0 l0.length c0, .slice A1 l1.length c1, .slice A2 l2.length c2] 28)).alloc (by simp) (.cells #[.int .i64 0, .int .i64 0] 33))
  have n0 := blk_cell k1 0
  have n1 := blk_cell k1 1
  have n2 := blk_cell k1 2
  have HK1 := Aside0.mk k1
  have HK2 := Aside0.mk k2
  have HDD := Aside0.mk hD
  have HMM := Aside0.mk hM
  have HXX := Aside0.mk hX
  clear h k1 k2 hD hM hX
  go_enter Try.func10, Try.ntmps10
  go_wp2_with fail
  generalize (w.alloc (.cells #[.slice A0 l0.length c0, .slice A1 l1.length c1, .slice A2 l2.length c2] 28)).alloc (.cells #[.int .i64 0, .int .i64 0] 33) = W1 at *
  refine (HDD.out W1 (HN.out.below HB1.out)).mono ?_
  rintro e W2 ⟨rfl, hb⟩
  have HB := Aside0.mk (HB1.out.trans (hb.mono HB1.out.size))
  have q1 := blk_below HK1.out hb
  have q2 := blk_below HK2.out hb
  have HQ1 := Aside0.mk q1
  have HQ2 := Aside0.mk q2
  clear n0 n1 n2 hb HB1 HK1 HK2 HDD
  cases hd : deniedS dn l2 a d with
  | true =>
    have E := Aside0.mk (show stepS mt dn l2 (nxS l1) a d = (2, (0, 0)) from by unfold stepS; rw [if_pos hd])
    have r0 : W2.cell? ⟨w.heap.size + 1, 0, none⟩ = some (.int .i64 0) := blk_cell q2 0
    have r1 : W2.cell? ⟨w.heap.size + 1, 1, none⟩ = some (.int .i64 0) := blk_cell q2 1
    have s0 := blk_frozen q2 0
    have s1 := blk_frozen q2 1
    clear q1 q2
    go_wp2_with fail
    exact bodyPost_ret (v := .tuple #[.int .i64 2, .agg #[.int .i64 0, .int .i64 0]]) (by simp [results, Try.results10, go_sem, r0, r1]) rfl ⟨by rw [E.out], (HB.out.setCell (p := ⟨w.heap.size + 1, 0, none⟩) (by show w.heap.size ≤ w.heap.size + 1; omega) _).setCell (p := ⟨w.heap.size + 1, 1, none⟩) (by show w.heap.size ≤ w.heap.size + 1; omega) _⟩
  | false =>
    have HD0 := Aside0.mk hd
    have n0 := blk_cell q1 0
    have n1 := blk_cell q1 1
    have n2 := blk_cell q1 2
    clear q1 q2
    go_wp2_with fail
    refine (HMM.out W2 (HN.out.below HB.out)).mono ?_
    rintro e W3 ⟨rfl, hb⟩
    cases ho : firstS (mt d a) l2 with
    | none =>
      have E := Aside0.mk (show stepS mt dn l2 (nxS l1) a d = (0, (0, 0)) from by unfold stepS; rw [if_neg (by rw [HD0.out]; decide), ho])
      have hb2 := hb.alloc hb.size (.cells #[.int .i64 0, .int .i64 0, .int .i64 0, .int .i64 0, .int .u32 0, .int .u32 0, .int .i64 0] 62)
      have HB := Aside0.mk (HB.out.trans (hb2.mono HB.out.size))
      have q2 := blk_below HQ2.out hb2
      have r0 : (W3.alloc (.cells #[.int .i64 0, .int .i64 0, .int .i64 0, .int .i64 0, .int .u32 0, .int .u32 0, .int .i64 0] 62)).cell? ⟨w.heap.size + 1, 0, none⟩ = some (.int .i64 0) := blk_cell q2 0
      have r1 : (W3.alloc (.cells #[.int .i64 0, .int .i64 0, .int .i64 0, .int .i64 0, .int .u32 0, .int .u32 0, .int .i64 0] 62)).cell? ⟨w.heap.size + 1, 1, none⟩ = some (.int .i64 0) := blk_cell q2 1
      have s0 := blk_frozen q2 0
      have s1 := blk_frozen q2 1
      clear q2 hb hb2 n0 n1 n2
      simp only [ho, Option.getD_none, Option.isSome_none, encR, zR]
      go_wp2_with fail
      exact bodyPost_ret (v := .tuple #[.int .i64 0, .agg #[.int .i64 0, .int .i64 0]]) (by simp [results, Try.results10, go_sem, r0, r1]) rfl ⟨by rw [E.out], (HB.out.setCell (p := ⟨w.heap.size + 1, 0, none⟩) (by show w.heap.size ≤ w.heap.size + 1; omega) _).setCell (p := ⟨w.heap.size + 1, 1, none⟩) (by show w.heap.size ≤ w.heap.size + 1; omega) _⟩
    | some r =>
      have hb2 := hb.alloc hb.size (.cells #[.int .i64 r.f0, .int .i64 r.f1, .int .i64 r.f2, .int .i64 r.f3, .int .u32 r.f4.f0, .int .u32 r.f4.f1, .int .i64 r.f5] 62)
      have HB := Aside0.mk (HB.out.trans (hb2.mono HB.out.size))
      have q1 := blk_below HQ1.out hb2
      have q2 := blk_below HQ2.out hb2
      have HP1 := Aside0.mk q1
      have HP2 := Aside0.mk q2
      have hnew := blk_new W3 (.cells #[.int .i64 r.f0, .int .i64 r.f1, .int .i64 r.f2, .int .i64 r.f3, .int .u32 r.f4.f0, .int .u32 r.f4.f1, .int .i64 r.f5] 62)
      have c3 := blk_cell hnew 3
      have c5 := blk_cell hnew 5
      have HO := Aside0.mk ho
      simp only [ho, Option.getD_some, Option.isSome_some, encR]
      clear hb hb2 hnew n0 n1 n2
      cases h1 : (r.f3 == 1) with
      | true =>
        have E := Aside0.mk (show stepS mt dn l2 (nxS l1) a d = (1, (0, 0)) from by unfold stepS; rw [if_neg (by rw [HD0.out]; decide), HO.out]; exact if_pos (by simpa using h1))
        have r0 : (W3.alloc (.cells #[.int .i64 r.f0, .int .i64 r.f1, .int .i64 r.f2, .int .i64 r.f3, .int .u32 r.f4.f0, .int .u32 r.f4.f1, .int .i64 r.f5] 62)).cell? ⟨w.heap.size + 1, 0, none⟩ = some (.int .i64 0) := blk_cell q2 0
        have r1 : (W3.alloc (.cells #[.int .i64 r.f0, .int .i64 r.f1, .int .i64 r.f2, .int .i64 r.f3, .int .u32 r.f4.f0, .int .u32 r.f4.f1, .int .i64 r.f5] 62)).cell? ⟨w.heap.size + 1, 1, none⟩ = some (.int .i64 0) := blk_cell q2 1
        have s0 := blk_frozen q2 0
        have s1 := blk_frozen q2 1
        clear q1 q2
        go_wp2_with fail
        exact bodyPost_ret (v := .tuple #[.int .i64 1, .agg #[.int .i64 0, .int .i64 0]]) (by simp [results, Try.results10, go_sem, r0, r1]) rfl ⟨by rw [E.out], (HB.out.setCell (p := ⟨w.heap.size + 1, 0, none⟩) (by show w.heap.size ≤ w.heap.size + 1; omega) _).setCell (p := ⟨w.heap.size + 1, 1, none⟩) (by show w.heap.size ≤ w.heap.size + 1; omega) _⟩
      | false =>
        have HE := Aside0.mk (show stepS mt dn l2 (nxS l1) a d = if (nxS l1 (d, r.f5)).isSome = true then (4, (d, r.f5)) else (3, (d, r.f5)) from by unfold stepS; rw [if_neg (by rw [HD0.out]; decide), HO.out]; exact if_neg (by simpa using h1))
        have hq3 := blk_alloc q1 (.cells #[.int .i64 d, .int .i64 r.f5] 33)
        have hq4 := blk_alloc q2 (.cells #[.int .i64 d, .int .i64 r.f5] 33)
        have hpn := blk_new (W3.alloc (.cells #[.int .i64 r.f0, .int .i64 r.f1, .int .i64 r.f2, .int .i64 r.f3, .int .u32 r.f4.f0, .int .u32 r.f4.f1, .int .i64 r.f5] 62)) (.cells #[.int .i64 d, .int .i64 r.f5] 33)
        rw [World.size_alloc] at hpn
        have HB := Aside0.mk (HB.out.alloc HB.out.size (.cells #[.int .i64 d, .int .i64 r.f5] 33))
        have n0 := blk_cell hq3 0
        have n1 := blk_cell hq3 1
        have n2 := blk_cell hq3 2
        have p0 := blk_cell hpn 0
        have p1 := blk_cell hpn 1
        have HQ4 := Aside0.mk hq4
        have HPN := Aside0.mk hpn
        have HLT := Aside0.mk (show w.heap.size + 1 < W3.heap.size + 1 from by have := blk_lt q2; rw [World.size_alloc] at this; exact this)
        clear q1 q2 hq3 hq4 hpn c3
        go_wp2_with fail
        generalize ((W3.alloc (.cells #[.int .i64 r.f0, .int .i64 r.f1, .int .i64 r.f2, .int .i64 r.f3, .int .u32 r.f4.f0, .int .u32 r.f4.f1, .int .i64 r.f5] 62)).alloc (.cells #[.int .i64 d, .int .i64 r.f5] 33)) = W4 at *
        refine (HXX.out W4 d r.f5 (HN.out.below HB.out)).mono ?_
        rintro e W5 ⟨q0, q1, rfl, hb⟩
        have hb2 := hb.alloc hb.size (.cells #[.int .i64 q0, .int .i64 q1] 33)
        have z2 := blk_below HQ4.out hb2
        have z3 := blk_below HPN.out hb2
        have HB := Aside0.mk (HB.out.trans (hb2.mono HB.out.size))
        have p0 := blk_cell z3 0
        have p1 := blk_cell z3 1
        have r0 : (W5.alloc (.cells #[.int .i64 q0, .int .i64 q1] 33)).cell? ⟨w.heap.size + 1, 0, none⟩ = some (.int .i64 0) := blk_cell z2 0
        have r1 : (W5.alloc (.cells #[.int .i64 q0, .int .i64 q1] 33)).cell? ⟨w.heap.size + 1, 1, none⟩ = some (.int .i64 0) := blk_cell z2 1
        have s0 := blk_frozen z2 0
        have s1 := blk_frozen z2 1
        have HE2 := Aside0.mk (blk_drew (blk_set (blk_set z2 0 (.int .i64 d)) 1 (.int .i64 r.f5)))
        have HB2 := Aside0.mk (below_drew ((HB.out.setCell (p := ⟨w.heap.size + 1, 0, none⟩) (by show w.heap.size ≤ w.heap.size + 1; omega) (.int .i64 d)).setCell (p := ⟨w.heap.size + 1, 1, none⟩) (by show w.heap.size ≤ w.heap.size + 1; omega) (.int .i64 r.f5)))
        have hne1 : ¬ w.heap.size + 1 = W3.heap.size + 1 := by have := HLT.out; omega
        have hne2 : ¬ W3.heap.size + 1 = w.heap.size + 1 := by have := HLT.out; omega
        clear hb hb2 z2 z3 n0 n1 n2 c5
        cases hx : nextB l1 ⟨d, r.f5⟩ with
        | true =>
          rw [nxS_some, hx, if_pos rfl] at HE
          go_wp2_with fail
          go_region
          have e0 := blk_cell HE2.out 0
          have e1 := blk_cell HE2.out 1
          go_wp2_with fail
          exact bodyPost_ret (v := .tuple #[.int .i64 4, .agg #[.int .i64 d, .int .i64 r.f5]]) (by simp [results, Try.results10, go_sem, e0, e1]) rfl ⟨by rw [HE.out], HB2.out⟩
        | false =>
          rw [nxS_some, hx, if_neg (by decide)] at HE
          go_wp2_with fail
          go_region
          have e0 := blk_cell HE2.out 0
          have e1 := blk_cell HE2.out 1
          go_wp2_with fail
          exact bodyPost_ret (v := .tuple #[.int .i64 3, .agg #[.int .i64 d, .int .i64 r.f5]]) (by simp [results, Try.results10, go_sem, e0, e1]) rfl ⟨by rw [HE.out], HB2.out⟩
end
end Go.Proofs.Ytkjighagiecbaaa.H
