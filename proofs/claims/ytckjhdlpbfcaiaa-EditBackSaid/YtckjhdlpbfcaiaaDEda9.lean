/- Eda9. -/
import Derived.Test.YtckjhdlpbfcaiaaDEda8
import Derived.Deep.RegionHeld3
namespace Go.Proofs.Ytckjhdlpbfcaiaa.H
open Go.RowKit Go.Proofs.Ytckjhdlpbfcaiaa.P Go.Proofs.YtckjhdlpbfcaiaaW.PrintWords Go.Proofs.YtckjhdlpbfcaiaaW.PrintLast Go.Proofs.YtckjhdlpbfcaiaaW.PrintMore
set_option linter.unusedVariables false
set_option linter.unusedSimpArgs false
set_option maxRecDepth 100000
theorem own_ne_new {w : World} {B : Nat} {v : Value} {l : List Rul} (h : OwnR B v l w) : ∀ g n c, v = .slice (some ⟨g, 0, none⟩) n c → w.heap.size ≠ g := by
  intro g n c e
  rcases own_cases h with ⟨e2, _⟩ | ⟨g', cap, e2, h1, h2, h3, h4⟩
  · rw [e2] at e; cases e
  · rw [e2] at e
    simp only [Value.slice.injEq, Option.some.injEq, Addr.mk.injEq] at e
    omega
theorem own_ne_old {w : World} {B b : Nat} {v : Value} {l : List Rul} (h : OwnR B v l w) (hb : b < B) : ∀ g n c, v = .slice (some ⟨g, 0, none⟩) n c → b ≠ g := by
  intro g n c e
  rcases own_cases h with ⟨e2, _⟩ | ⟨g', cap, e2, h1, h2, h3, h4⟩
  · rw [e2] at e; cases e
  · rw [e2] at e
    simp only [Value.slice.injEq, Option.some.injEq, Addr.mk.injEq] at e
    omega
theorem box_cells {w : World} {b : Nat} {r : Rul} (h : w.heap[b]? = some (blkR r)) : w.cell? ⟨b, 0, none⟩ = some (.int .i64 r.f0) ∧ w.cell? ⟨b, 1, none⟩ = some (.int .i64 r.f1) ∧ w.cell? ⟨b, 2, none⟩ = some (.int .i64 r.f2) ∧ w.cell? ⟨b, 3, none⟩ = some (.int .i64 r.f3) ∧ w.cell? ⟨b, 4, none⟩ = some (.int .u32 r.f4.f0) ∧ w.cell? ⟨b, 5, none⟩ = some (.int .u32 r.f4.f1) ∧ w.cell? ⟨b, 6, none⟩ = some (.int .i64 r.f5) :=
  ⟨blk_cell h 0, blk_cell h 1, blk_cell h 2, blk_cell h 3, blk_cell h 4, blk_cell h 5, blk_cell h 6⟩
set_option maxHeartbeats 4000000 in
theorem does1_ok (A : Option Addr) (c : Nat) (l : List Rul) (r : Rul) (i : Nat) (w : World) (hr : Kd.C k35 w A l.length l) (hc : l.length ≤ c) (hl : l.length < 40) (hi : i ≤ l.length) :
    Calls Try.prog 44 #[.slice A l.length c, encR r, .int .i64 (i : Nat), .bool false] w (DoneR (l.take i ++ r :: l.drop i) 0 w.heap.size w) := by
  have HB := Aside0.mk (boxed r w)
  have hu := Try.underlying35
  have HX := Aside0.mk (show (w.alloc (.cells #[.int .i64 r.f0, .int .i64 r.f1, .int .i64 r.f2, .int .i64 r.f3, .int .u32 r.f4.f0, .int .u32 r.f4.f1, .int .i64 r.f5] 35)).heap[w.heap.size]? = some (blkR r) from blk_new w _)
  have HCL := Aside0.mk (fun W (hW : Below w.heap.size w W) => cloneR_any A c l W (Kd.C_below hr hW) hc (by omega))
  have HI := Aside0.mk hi
  have HL := Aside0.mk (show l.length ≤ 1000 from by omega)
  have hlt : ¬ (40 : Int) ≤ (l.length : Int) := by omega
  have hlt2 : (l.length : Int) < 40 := by omega
  unfold encR
  clear hr hi hc hl
  go_enter Try.func44, Try.ntmps44
  go_wp2_with fail
  have hg0 : (w.alloc (.cells #[.int .i64 r.f0, .int .i64 r.f1, .int .i64 r.f2, .int .i64 r.f3, .int .u32 r.f4.f0, .int .u32 r.f4.f1, .int .i64 r.f5] 35)).heap.size = w.heap.size + 1 := by simp
  generalize (w.alloc (.cells #[.int .i64 r.f0, .int .i64 r.f1, .int .i64 r.f2, .int .i64 r.f3, .int .u32 r.f4.f0, .int .u32 r.f4.f1, .int .i64 r.f5] 35)) = W0 at *
  have HG0 := Aside0.mk hg0
  clear hg0
  have R0 := Aside0.mk (Below.refl W0.heap.size W0)
  have hc := box_cells HX.out
  go_region_held3 (fun w' => w'.cell? ⟨w.heap.size, 0, none⟩ = some (.int .i64 r.f0) ∧ w'.cell? ⟨w.heap.size, 1, none⟩ = some (.int .i64 r.f1) ∧ w'.cell? ⟨w.heap.size, 2, none⟩ = some (.int .i64 r.f2) ∧ w'.cell? ⟨w.heap.size, 3, none⟩ = some (.int .i64 r.f3) ∧ w'.cell? ⟨w.heap.size, 4, none⟩ = some (.int .u32 r.f4.f0) ∧ w'.cell? ⟨w.heap.size, 5, none⟩ = some (.int .u32 r.f4.f1) ∧ w'.cell? ⟨w.heap.size, 6, none⟩ = some (.int .i64 r.f5)) (first | assumption | go_keep) (first
    | (go_at_call 30; (with_reducible refine (HCL.out W0.drew (HB.out.trans ((below_drew R0.out).mono HB.out.size))).mono ?_); rintro e w3 ⟨v, rfl, ho, hb⟩; have HNE := Aside0.mk (own_ne_new ho); have HO := Aside0.mk (own_base ho (below_drew R0.out).size); have HJ := Aside0.mk ((below_drew R0.out).trans (hb.mono (below_drew R0.out).size)); have K1 := box_cells (blk_below (blk_drew HX.out) hb); clear hb ho)
    | (go_at_call 30; (with_reducible refine (HCL.out (W0.alloc (.cells #[.int .i64 r.f0, .int .i64 r.f1, .int .i64 r.f2, .int .i64 r.f3, .int .u32 r.f4.f0, .int .u32 r.f4.f1, .int .i64 r.f5] 35)) (HB.out.trans ((R0.out.alloc R0.out.size (.cells #[.int .i64 r.f0, .int .i64 r.f1, .int .i64 r.f2, .int .i64 r.f3, .int .u32 r.f4.f0, .int .u32 r.f4.f1, .int .i64 r.f5] 35)).mono HB.out.size))).mono ?_); rintro e w3 ⟨v, rfl, ho, hb⟩; have HNE := Aside0.mk (own_ne_old (b := W0.heap.size) ho (by simp [World.drew])); have HVB := Aside0.mk (show w3.heap[W0.heap.size]? = some (.cells (rcells r).toArray 35 (0, 0)) from blk_below (blk_new W0 (.cells #[.int .i64 r.f0, .int .i64 r.f1, .int .i64 r.f2, .int .i64 r.f3, .int .u32 r.f4.f0, .int .u32 r.f4.f1, .int .i64 r.f5] 35)) hb); have HO := Aside0.mk (own_base ho (R0.out.alloc R0.out.size (.cells #[.int .i64 r.f0, .int .i64 r.f1, .int .i64 r.f2, .int .i64 r.f3, .int .u32 r.f4.f0, .int .u32 r.f4.f1, .int .i64 r.f5] 35)).size); have HJ := Aside0.mk ((R0.out.alloc R0.out.size (.cells #[.int .i64 r.f0, .int .i64 r.f1, .int .i64 r.f2, .int .i64 r.f3, .int .u32 r.f4.f0, .int .u32 r.f4.f1, .int .i64 r.f5] 35)).trans (hb.mono (R0.out.alloc R0.out.size (.cells #[.int .i64 r.f0, .int .i64 r.f1, .int .i64 r.f2, .int .i64 r.f3, .int .u32 r.f4.f0, .int .u32 r.f4.f1, .int .i64 r.f5] 35)).size)); have K1 := box_cells (blk_below (blk_below HX.out ((Below.refl W0.heap.size W0).alloc (Nat.le_refl _) (.cells #[.int .i64 r.f0, .int .i64 r.f1, .int .i64 r.f2, .int .i64 r.f3, .int .u32 r.f4.f0, .int .u32 r.f4.f1, .int .i64 r.f5] 35))) hb); clear hb ho)
    | (go_at_call 30; (with_reducible refine (HCL.out (W0.alloc (.cells #[.int .i64 r.f0, .int .i64 r.f1, .int .i64 r.f2, .int .i64 r.f3, .int .u32 r.f4.f0, .int .u32 r.f4.f1, .int .i64 r.f5] 35)).drew (HB.out.trans ((below_drew (R0.out.alloc R0.out.size (.cells #[.int .i64 r.f0, .int .i64 r.f1, .int .i64 r.f2, .int .i64 r.f3, .int .u32 r.f4.f0, .int .u32 r.f4.f1, .int .i64 r.f5] 35))).mono HB.out.size))).mono ?_); rintro e w3 ⟨v, rfl, ho, hb⟩; have HNE := Aside0.mk (own_ne_old (b := W0.heap.size) ho (by simp [World.drew])); have HVB := Aside0.mk (show w3.heap[W0.heap.size]? = some (.cells (rcells r).toArray 35 (0, 0)) from blk_below (blk_drew (blk_new W0 (.cells #[.int .i64 r.f0, .int .i64 r.f1, .int .i64 r.f2, .int .i64 r.f3, .int .u32 r.f4.f0, .int .u32 r.f4.f1, .int .i64 r.f5] 35))) hb); have HO := Aside0.mk (own_base ho (below_drew (R0.out.alloc R0.out.size (.cells #[.int .i64 r.f0, .int .i64 r.f1, .int .i64 r.f2, .int .i64 r.f3, .int .u32 r.f4.f0, .int .u32 r.f4.f1, .int .i64 r.f5] 35))).size); have HJ := Aside0.mk ((below_drew (R0.out.alloc R0.out.size (.cells #[.int .i64 r.f0, .int .i64 r.f1, .int .i64 r.f2, .int .i64 r.f3, .int .u32 r.f4.f0, .int .u32 r.f4.f1, .int .i64 r.f5] 35))).trans (hb.mono (below_drew (R0.out.alloc R0.out.size (.cells #[.int .i64 r.f0, .int .i64 r.f1, .int .i64 r.f2, .int .i64 r.f3, .int .u32 r.f4.f0, .int .u32 r.f4.f1, .int .i64 r.f5] 35))).size)); have K1 := box_cells (blk_below (blk_drew (blk_below HX.out ((Below.refl W0.heap.size W0).alloc (Nat.le_refl _) (.cells #[.int .i64 r.f0, .int .i64 r.f1, .int .i64 r.f2, .int .i64 r.f3, .int .u32 r.f4.f0, .int .u32 r.f4.f1, .int .i64 r.f5] 35)))) hb); clear hb ho)
    | (go_at_call 30; (with_reducible refine (HCL.out (W0.drew.alloc (.cells #[.int .i64 r.f0, .int .i64 r.f1, .int .i64 r.f2, .int .i64 r.f3, .int .u32 r.f4.f0, .int .u32 r.f4.f1, .int .i64 r.f5] 35)) (HB.out.trans (((below_drew R0.out).alloc HB.out.size (.cells #[.int .i64 r.f0, .int .i64 r.f1, .int .i64 r.f2, .int .i64 r.f3, .int .u32 r.f4.f0, .int .u32 r.f4.f1, .int .i64 r.f5] 35)).mono HB.out.size))).mono ?_); rintro e w3 ⟨v, rfl, ho, hb⟩; have HNE := Aside0.mk (own_ne_old (b := W0.heap.size) ho (by simp [World.drew])); have HVB := Aside0.mk (show w3.heap[W0.heap.size]? = some (.cells (rcells r).toArray 35 (0, 0)) from blk_below (blk_new W0.drew (.cells #[.int .i64 r.f0, .int .i64 r.f1, .int .i64 r.f2, .int .i64 r.f3, .int .u32 r.f4.f0, .int .u32 r.f4.f1, .int .i64 r.f5] 35)) hb); have HO := Aside0.mk (own_base ho ((below_drew R0.out).alloc HB.out.size (.cells #[.int .i64 r.f0, .int .i64 r.f1, .int .i64 r.f2, .int .i64 r.f3, .int .u32 r.f4.f0, .int .u32 r.f4.f1, .int .i64 r.f5] 35)).size); have HJ := Aside0.mk (((below_drew R0.out).alloc HB.out.size (.cells #[.int .i64 r.f0, .int .i64 r.f1, .int .i64 r.f2, .int .i64 r.f3, .int .u32 r.f4.f0, .int .u32 r.f4.f1, .int .i64 r.f5] 35)).trans (hb.mono ((below_drew R0.out).alloc HB.out.size (.cells #[.int .i64 r.f0, .int .i64 r.f1, .int .i64 r.f2, .int .i64 r.f3, .int .u32 r.f4.f0, .int .u32 r.f4.f1, .int .i64 r.f5] 35)).size)); have K1 := box_cells (blk_below (blk_below (blk_drew HX.out) ((Below.refl W0.heap.size W0.drew).alloc (Nat.le_refl _) (.cells #[.int .i64 r.f0, .int .i64 r.f1, .int .i64 r.f2, .int .i64 r.f3, .int .u32 r.f4.f0, .int .u32 r.f4.f1, .int .i64 r.f5] 35))) hb); clear hb ho)
    | (go_at_call 45; (with_reducible refine (ins_any W0.heap.size i w3.heap.size v l r (w3.alloc (.cells #[.int .i64 r.f0, .int .i64 r.f1, .int .i64 r.f2, .int .i64 r.f3, .int .u32 r.f4.f0, .int .u32 r.f4.f1, .int .i64 r.f5] 35)) (own_below HO.out ((Below.refl _ w3).alloc (Nat.le_refl _) _)) (show (w3.alloc (.cells #[.int .i64 r.f0, .int .i64 r.f1, .int .i64 r.f2, .int .i64 r.f3, .int .u32 r.f4.f0, .int .u32 r.f4.f1, .int .i64 r.f5] 35)).heap[w3.heap.size]? = some (.cells (rcells r).toArray 35 (0, 0)) from blk_new w3 _) HNE.out HI.out HL.out (HJ.out.alloc HJ.out.size (.cells #[.int .i64 r.f0, .int .i64 r.f1, .int .i64 r.f2, .int .i64 r.f3, .int .u32 r.f4.f0, .int .u32 r.f4.f1, .int .i64 r.f5] 35)).size).mono ?_); rintro e w5 ⟨v5, rfl, ho5, hb5⟩; have HO5 := Aside0.mk ho5; have HJ5 := Aside0.mk ((HJ.out.alloc HJ.out.size (.cells #[.int .i64 r.f0, .int .i64 r.f1, .int .i64 r.f2, .int .i64 r.f3, .int .u32 r.f4.f0, .int .u32 r.f4.f1, .int .i64 r.f5] 35)).trans (hb5.mono (Nat.le_refl _))); have K5 := box_cells ((HJ5.out.block _ (by have := HG0.out; omega)).trans HX.out); clear hb5 ho5)
    | (go_at_call 45; (with_reducible refine (ins_any W0.heap.size i W0.heap.size v l r w3 HO.out HVB.out HNE.out HI.out HL.out HJ.out.size).mono ?_); rintro e w5 ⟨v5, rfl, ho5, hb5⟩; have HO5 := Aside0.mk ho5; have HJ5 := Aside0.mk (HJ.out.trans (hb5.mono (Nat.le_refl _))); have K5 := box_cells ((HJ5.out.block _ (by have := HG0.out; omega)).trans HX.out); clear hb5 ho5))
  all_goals
    have HO5 := HO5
    clear K1 hc K5
    go_wp2_with fail
    go_ret2
    exact ⟨_, rfl, own_base HO5.out HB.out.size, HB.out.trans (HJ5.out.mono HB.out.size)⟩
end Go.Proofs.Ytckjhdlpbfcaiaa.H
