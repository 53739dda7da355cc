/- Floor, Ceil: walked. -/
import Derived.Test.YtbiccahkniadfaaTree8
namespace Go.Proofs.Ytbiccahkniadfaa.H
open Go.RowKit Go.Proofs.Ytbiccahkniadfaa.P Go.Proofs.YtbiccahkniadfaaW.PrintWords Go.Proofs.YtbiccahkniadfaaW.PrintLast Go.Proofs.YtbiccahkniadfaaW.PrintMore
set_option linter.unusedVariables false
set_option linter.unusedSimpArgs false
def ceilT (k : Int) (t : T) : (Int × Int) × Bool := atT t (belowT k t : Nat)
def floorT (k : Int) (t : T) : (Int × Int) × Bool := if (atT t (belowT k t : Nat)).2 && ((atT t (belowT k t : Nat)).1.1 == k) then ((atT t (belowT k t : Nat)).1, true) else atT t ((belowT k t : Nat) - 1)
set_option maxRecDepth 20000 in
set_option maxHeartbeats 1600000 in
theorem ceil_any (P : Option Addr) (k : Int) (t : T) (w : World) (h : RootAt w P t) (hs : sz t ≤ 40000) :
    Calls Try.prog 20 #[.pointer P, .int .u64 k] w fun e w' => e = .returned (.tuple #[.agg #[.int .u64 (ceilT k t).1.1, .int .i64 (ceilT k t).1.2], .bool (ceilT k t).2]) ∧ Below w.heap.size w w' := by
  have HB0 := Aside0.mk ((Below.refl w.heap.size w).alloc (Nat.le_refl _) (.cells #[.int .u64 0, .int .i64 0] 45))
  have HX0 := Aside0.mk (blk_new w (.cells #[.int .u64 0, .int .i64 0] 45))
  have HH := Aside0.mk (h.below HB0.out)
  have HSZ := Aside0.mk hs
  have HC := Aside0.mk (show ceilT k t = atT t (belowT k t : Nat) from rfl)
  clear h hs
  generalize ceilT k t = res at *
  obtain ⟨⟨x0, x1⟩, xb⟩ := res
  simp only []
  go_enter Try.func20, Try.ntmps20
  go_wp2_with fail
  generalize (w.alloc (.cells #[.int .u64 0, .int .i64 0] 45)) = w0 at *
  refine (below_any P k t w0 HH.out HSZ.out).mono ?_
  rintro e w1 ⟨rfl, rfl⟩
  have hat := at_any P (belowT k t : Nat) t w1 HH.out HSZ.out
  rw [← HC.out] at hat
  simp only [] at hat
  generalize ((belowT k t : Nat) : Int) = b at *
  go_wp2_with fail
  refine hat.mono ?_
  rintro e w2 ⟨rfl, hb⟩
  have HX2 := Aside0.mk (blk_below HX0.out hb)
  have HB2 := Aside0.mk (HB0.out.trans (hb.mono HB0.out.size))
  clear hb hat HX0 HB0 HH
  have k0 := blk_cell HX2.out 0
  have k2 := blk_cell HX2.out 1
  have f0 := blk_frozen HX2.out 0
  have f1 := blk_frozen HX2.out 1
  go_wp2_with fail
  have m1 := blk_set (blk_set HX2.out 0 (.int .u64 x0)) 1 (.int .i64 x1)
  have m2 := blk_cell m1 0
  have m3 := blk_cell m1 1
  have HBS := Aside0.mk ((HB2.out.setCell (p := ⟨w.heap.size, 0, none⟩) (Nat.le_refl _) (.int .u64 x0)).setCell (p := ⟨w.heap.size, 1, none⟩) (Nat.le_refl _) (.int .i64 x1))
  exact bodyPost_ret (v := .tuple #[.agg #[.int .u64 x0, .int .i64 x1], .bool xb]) (by simp [results, Try.results20, go_sem, m2, m3]) rfl ⟨rfl, HBS.out⟩
set_option maxRecDepth 20000 in
set_option maxHeartbeats 1600000 in
theorem floor_any (P : Option Addr) (k : Int) (t : T) (w : World) (h : RootAt w P t) (hs : sz t ≤ 40000) :
    Calls Try.prog 19 #[.pointer P, .int .u64 k] w fun e w' => e = .returned (.tuple #[.agg #[.int .u64 (floorT k t).1.1, .int .i64 (floorT k t).1.2], .bool (floorT k t).2]) ∧ Below w.heap.size w w' := by
  have HB0 := Aside0.mk ((Below.refl w.heap.size w).alloc (Nat.le_refl _) (.cells #[.int .u64 0, .int .i64 0] 45))
  have HX0 := Aside0.mk (blk_new w (.cells #[.int .u64 0, .int .i64 0] 45))
  have HH := Aside0.mk (h.below HB0.out)
  have HSZ := Aside0.mk hs
  have HBL := Aside0.mk (below_le k t)
  have HC := Aside0.mk (show floorT k t = if (atT t (belowT k t : Nat)).2 && ((atT t (belowT k t : Nat)).1.1 == k) then ((atT t (belowT k t : Nat)).1, true) else atT t ((belowT k t : Nat) - 1) from rfl)
  clear h hs
  generalize floorT k t = res at *
  obtain ⟨⟨x0, x1⟩, xb⟩ := res
  simp only []
  go_enter Try.func19, Try.ntmps19
  go_wp2_with fail
  generalize (w.alloc (.cells #[.int .u64 0, .int .i64 0] 45)) = w0 at *
  refine (below_any P k t w0 HH.out HSZ.out).mono ?_
  rintro e w1 ⟨rfl, rfl⟩
  have hat := at_any P (belowT k t : Nat) t w1 HH.out HSZ.out
  have HAT2 := Aside0.mk (fun W hW => at_any P ((belowT k t : Nat) - 1) t W hW HSZ.out)
  have wb : IntKind.i64.wrap (((belowT k t : Nat) : Int) - 1) = ((belowT k t : Nat) : Int) - 1 := by have := HSZ.out; have := HBL.out; rw [IntKind.wrap_i64]; omega
  generalize atT t (belowT k t : Nat) = r1 at *
  generalize atT t (((belowT k t : Nat) : Int) - 1) = r2 at *
  obtain ⟨⟨y0, y1⟩, yb⟩ := r1
  obtain ⟨⟨z0, z1⟩, zb⟩ := r2
  simp only [] at hat HC HAT2
  generalize ((belowT k t : Nat) : Int) = b at *
  go_wp2_with fail
  refine hat.mono ?_
  rintro e w2 ⟨rfl, hb⟩
  have HX2 := Aside0.mk (blk_below HX0.out hb)
  have HH2 := Aside0.mk (HH.out.below hb)
  have HB2 := Aside0.mk (HB0.out.trans (hb.mono HB0.out.size))
  clear hb hat HX0 HB0 HH
  have hbn : Below w2.heap.size w2 (w2.alloc (.cells #[.int .u64 y0, .int .i64 y1] 45)) := (Below.refl w2.heap.size w2).alloc (Nat.le_refl _) _
  have HX3 := Aside0.mk (blk_below HX2.out hbn)
  have HY3 := Aside0.mk (blk_new w2 (.cells #[.int .u64 y0, .int .i64 y1] 45))
  have HH3 := Aside0.mk (HH2.out.below hbn)
  have HB3 := Aside0.mk (HB2.out.trans (hbn.mono HB2.out.size))
  clear hbn HX2 HH2 HB2
  have k0 := blk_cell HX3.out 0
  have k2 := blk_cell HX3.out 1
  have f0 := blk_frozen HX3.out 0
  have f1 := blk_frozen HX3.out 1
  have y2 := blk_cell HY3.out 0
  have y3 := blk_cell HY3.out 1
  cases hyb : yb with
  | false =>
    subst hyb
    have HC2 := Aside0.mk (show ((x0, x1), xb) = ((z0, z1), zb) from HC.out)
    go_wp2_with fail
    generalize (w2.alloc (.cells #[.int .u64 y0, .int .i64 y1] 45)) = w3 at *
    refine (HAT2.out w3 HH3.out).mono ?_
    rintro e w4 ⟨rfl, hb⟩
    have HX4 := Aside0.mk (blk_below HX3.out hb)
    have HB4 := Aside0.mk (HB3.out.trans (hb.mono HB3.out.size))
    clear hb k0 k2 f0 f1 y2 y3
    have k0 := blk_cell HX4.out 0
    have k2 := blk_cell HX4.out 1
    have f0 := blk_frozen HX4.out 0
    have f1 := blk_frozen HX4.out 1
    go_wp2_with fail
    have he := HC2.out
    injection he with he1 he2
    injection he1 with he3 he4
    subst he2; subst he3; subst he4
    have m1 := blk_set (blk_set HX4.out 0 (.int .u64 x0)) 1 (.int .i64 x1)
    have m2 := blk_cell m1 0
    have m3 := blk_cell m1 1
    have HBS := Aside0.mk ((HB4.out.setCell (p := ⟨w.heap.size, 0, none⟩) (Nat.le_refl _) (.int .u64 x0)).setCell (p := ⟨w.heap.size, 1, none⟩) (Nat.le_refl _) (.int .i64 x1))
    exact bodyPost_ret (v := .tuple #[.agg #[.int .u64 x0, .int .i64 x1], .bool xb]) (by simp [results, Try.results19, go_sem, m2, m3]) rfl ⟨rfl, HBS.out⟩
  | true =>
    subst hyb
    cases hk : (y0 == k) with
    | true =>
      have HC2 := Aside0.mk (show ((x0, x1), xb) = ((y0, y1), true) from by rw [HC.out, hk]; rfl)
      go_wp2_with fail
      generalize (w2.alloc (.cells #[.int .u64 y0, .int .i64 y1] 45)) = w3 at *
      have HX4 := HX3
      have HB4 := HB3
      have he := HC2.out
      injection he with he1 he2
      injection he1 with he3 he4
      subst he2; subst he3; subst he4
      have m1 := blk_set (blk_set HX4.out 0 (.int .u64 x0)) 1 (.int .i64 x1)
      have m2 := blk_cell m1 0
      have m3 := blk_cell m1 1
      have HBS := Aside0.mk ((HB4.out.setCell (p := ⟨w.heap.size, 0, none⟩) (Nat.le_refl _) (.int .u64 x0)).setCell (p := ⟨w.heap.size, 1, none⟩) (Nat.le_refl _) (.int .i64 x1))
      exact bodyPost_ret (v := .tuple #[.agg #[.int .u64 x0, .int .i64 x1], .bool true]) (by simp [results, Try.results19, go_sem, m2, m3]) rfl ⟨rfl, HBS.out⟩
    | false =>
      have HC2 := Aside0.mk (show ((x0, x1), xb) = ((z0, z1), zb) from by rw [HC.out, hk]; rfl)
      go_wp2_with fail
      generalize (w2.alloc (.cells #[.int .u64 y0, .int .i64 y1] 45)) = w3 at *
      refine (HAT2.out w3 HH3.out).mono ?_
      rintro e w4 ⟨rfl, hb⟩
      have HX4 := Aside0.mk (blk_below HX3.out hb)
      have HB4 := Aside0.mk (HB3.out.trans (hb.mono HB3.out.size))
      clear hb k0 k2 f0 f1 y2 y3
      have k0 := blk_cell HX4.out 0
      have k2 := blk_cell HX4.out 1
      have f0 := blk_frozen HX4.out 0
      have f1 := blk_frozen HX4.out 1
      go_wp2_with fail
      have he := HC2.out
      injection he with he1 he2
      injection he1 with he3 he4
      subst he2; subst he3; subst he4
      have m1 := blk_set (blk_set HX4.out 0 (.int .u64 x0)) 1 (.int .i64 x1)
      have m2 := blk_cell m1 0
      have m3 := blk_cell m1 1
      have HBS := Aside0.mk ((HB4.out.setCell (p := ⟨w.heap.size, 0, none⟩) (Nat.le_refl _) (.int .u64 x0)).setCell (p := ⟨w.heap.size, 1, none⟩) (Nat.le_refl _) (.int .i64 x1))
      exact bodyPost_ret (v := .tuple #[.agg #[.int .u64 x0, .int .i64 x1], .bool xb]) (by simp [results, Try.results19, go_sem, m2, m3]) rfl ⟨rfl, HBS.out⟩
end Go.Proofs.Ytbiccahkniadfaa.H
