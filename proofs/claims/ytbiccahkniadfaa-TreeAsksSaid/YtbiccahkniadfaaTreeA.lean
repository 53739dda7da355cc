/- alive (trees): walked. -/
import Derived.Test.YtbiccahkniadfaaTree9
namespace Go.Proofs.Ytbiccahkniadfaa.H
open Go.RowKit Go.Proofs.Ytbiccahkniadfaa.P Go.Proofs.YtbiccahkniadfaaW.PrintWords Go.Proofs.YtbiccahkniadfaaW.PrintLast Go.Proofs.YtbiccahkniadfaaW.PrintMore
set_option linter.unusedVariables false
set_option linter.unusedSimpArgs false
theorem put_ok (P : Option Addr) (k v : Int) (t : T) (w : World) (h : RootAt w P t) (hs : sz t ≤ 40000) (hf : fullT k t = false) :
    Calls Try.prog 10 #[.pointer P, .int .u64 k, .int .i64 v] w fun e w' => (∃ g, e = .returned (.tuple #[.pointer (some ⟨g, 0, none⟩), .int .i64 0]) ∧ RootAt w' (some ⟨g, 0, none⟩) (withT k v t)) ∧ Below w.heap.size w w' := by
  refine (put_any P k v t w h hs).mono ?_
  rintro e w' ⟨⟨h1, _⟩ | ⟨_, h2⟩, hb⟩
  · rw [hf] at h1; cases h1
  · exact ⟨h2, hb⟩
theorem put_full (P : Option Addr) (k v : Int) (t : T) (w : World) (h : RootAt w P t) (hs : sz t ≤ 40000) (hf : fullT k t = true) :
    Calls Try.prog 10 #[.pointer P, .int .u64 k, .int .i64 v] w fun e w' => e = .returned (.tuple #[.pointer none, .int .i64 41]) ∧ Below w.heap.size w w' := by
  refine (put_any P k v t w h hs).mono ?_
  rintro e w' ⟨⟨_, h1⟩ | ⟨h2, _⟩, hb⟩
  · exact ⟨h1, hb⟩
  · rw [hf] at h2; cases h2
theorem drop_ok (P : Option Addr) (k : Int) (t : T) (w : World) (h : RootAt w P t) (hs : sz t ≤ 40000) (hf : hasT k t = true) :
    Calls Try.prog 11 #[.pointer P, .int .u64 k] w fun e w' => (∃ g, e = .returned (.tuple #[.pointer (some ⟨g, 0, none⟩), .int .i64 0]) ∧ RootAt w' (some ⟨g, 0, none⟩) (withoutT k t)) ∧ Below w.heap.size w w' := by
  refine (drop_any P k t w h hs).mono ?_
  rintro e w' ⟨⟨h1, _⟩ | ⟨_, h2⟩, hb⟩
  · rw [hf] at h1; cases h1
  · exact ⟨h2, hb⟩
def tA : T := withT 5 50 .leaf
def tB : T := withT 3 30 tA
def tC : T := withoutT 5 tB
theorem sA : sz tA = 1 := by kernel_rfl
theorem sB : sz tB = 2 := by kernel_rfl
theorem sC : sz tC = 1 := by kernel_rfl
theorem hB : ht tB = 2 := by kernel_rfl
theorem eF : floorT 4 tB = ((3, 30), true) := by kernel_rfl
theorem eC : ceilT 4 tB = ((5, 50), true) := by kernel_rfl
set_option maxRecDepth 20000 in
set_option maxHeartbeats 2000000 in
theorem alive_any (w : World) : Calls Try.prog 13 #[] w fun e w' => e = .returned (.bool true) ∧ Below w.heap.size w w' := by
  go_enter Try.func13, Try.ntmps13
  go_wp2_with fail
  refine (new_any w).mono ?_
  rintro e w1 ⟨⟨g0, rfl, h0⟩, hb1⟩
  have HB1 := Aside0.mk hb1
  have H0 := Aside0.mk h0
  clear hb1 h0
  go_wp2_with fail
  refine (put_ok _ 5 50 .leaf w1 H0.out (by decide) (by kernel_rfl)).mono ?_
  rintro e w2 ⟨⟨gA, rfl, hA⟩, hb⟩
  have HB2 := Aside0.mk (HB1.out.trans (hb.mono HB1.out.size))
  have HA2 := Aside0.mk (show RootAt w2 (some ⟨gA, 0, none⟩) tA from hA)
  clear hb hA
  go_wp2_with fail
  refine (put_ok _ 3 30 tA w2 HA2.out (by rw [sA]; decide) (by kernel_rfl)).mono ?_
  rintro e w3 ⟨⟨gB, rfl, hBB⟩, hb⟩
  have HB3 := Aside0.mk (HB2.out.trans (hb.mono HB2.out.size))
  have HBB3 := Aside0.mk (show RootAt w3 (some ⟨gB, 0, none⟩) tB from hBB)
  have HA3 := Aside0.mk (HA2.out.below hb)
  clear hb hBB HA2
  go_wp2_with fail
  refine (drop_ok _ 5 tB w3 HBB3.out (by rw [sB]; decide) (by kernel_rfl)).mono ?_
  rintro e w4 ⟨⟨gC, rfl, hC⟩, hb⟩
  have HB4 := Aside0.mk (HB3.out.trans (hb.mono HB3.out.size))
  have HC4 := Aside0.mk (show RootAt w4 (some ⟨gC, 0, none⟩) tC from hC)
  have HBB4 := Aside0.mk (HBB3.out.below hb)
  have HA4 := Aside0.mk (HA3.out.below hb)
  clear hb hC HA3 HBB3
  go_wp2_with fail
  have hfl := floor_any _ 4 tB w4 HBB4.out (by rw [sB]; decide)
  rw [eF] at hfl
  refine hfl.mono ?_
  rintro e w5 ⟨rfl, hb⟩
  have HB5 := Aside0.mk (HB4.out.trans (hb.mono HB4.out.size))
  have HC5 := Aside0.mk (HC4.out.below hb)
  have HBB5 := Aside0.mk (HBB4.out.below hb)
  have HA5 := Aside0.mk (HA4.out.below hb)
  clear hb hfl HA4 HBB4 HC4
  have hn6 : Below w5.heap.size w5 (w5.alloc (.cells #[.int .u64 3, .int .i64 30] 45)) := (Below.refl w5.heap.size w5).alloc (Nat.le_refl _) _
  have HY6 := Aside0.mk (blk_new w5 (.cells #[.int .u64 3, .int .i64 30] 45))
  have HB6 := Aside0.mk (HB5.out.trans (hn6.mono HB5.out.size))
  have HC6 := Aside0.mk (HC5.out.below hn6)
  have HBB6 := Aside0.mk (HBB5.out.below hn6)
  have HA6 := Aside0.mk (HA5.out.below hn6)
  clear hn6 HA5 HBB5 HC5 HB5
  go_wp2_with fail
  generalize (w5.alloc (.cells #[.int .u64 3, .int .i64 30] 45)) = w6 at *
  have hfl := ceil_any _ 4 tB w6 HBB6.out (by rw [sB]; decide)
  rw [eC] at hfl
  refine hfl.mono ?_
  rintro e w7 ⟨rfl, hb⟩
  have HB7 := Aside0.mk (HB6.out.trans (hb.mono HB6.out.size))
  have HC7 := Aside0.mk (HC6.out.below hb)
  have HBB7 := Aside0.mk (HBB6.out.below hb)
  have HA7 := Aside0.mk (HA6.out.below hb)
  have HY7 := Aside0.mk (blk_below HY6.out hb)
  clear hb hfl HA6 HBB6 HC6 HB6 HY6
  have hn8 : Below w7.heap.size w7 (w7.alloc (.cells #[.int .u64 5, .int .i64 50] 45)) := (Below.refl w7.heap.size w7).alloc (Nat.le_refl _) _
  have HZ8 := Aside0.mk (blk_new w7 (.cells #[.int .u64 5, .int .i64 50] 45))
  have HY8 := Aside0.mk (blk_below HY7.out hn8)
  have HB8 := Aside0.mk (HB7.out.trans (hn8.mono HB7.out.size))
  have HC8 := Aside0.mk (HC7.out.below hn8)
  have HBB8 := Aside0.mk (HBB7.out.below hn8)
  have HA8 := Aside0.mk (HA7.out.below hn8)
  clear hn8 HA7 HBB7 HC7 HB7 HY7
  go_wp2_with fail
  generalize (w7.alloc (.cells #[.int .u64 5, .int .i64 50] 45)) = w8 at *
  have l1 := len_any _ tA w8 HA8.out
  have l2 := len_any _ tB w8 HBB8.out
  have l3 := len_any _ tC w8 HC8.out
  have l4 := height_any _ tB w8 HBB8.out
  rw [sA] at l1
  rw [sB] at l2
  rw [sC] at l3
  rw [hB] at l4
  have y0 := blk_cell HY8.out 0
  have y1 := blk_cell HY8.out 1
  have z0 := blk_cell HZ8.out 0
  have z1 := blk_cell HZ8.out 1
  go_wp2_with fail
  refine l1.mono ?_
  rintro e w9 ⟨rfl, rfl⟩
  go_wp2_with fail
  refine l2.mono ?_
  rintro e w9 ⟨rfl, rfl⟩
  go_wp2_with fail
  refine l3.mono ?_
  rintro e w9 ⟨rfl, rfl⟩
  go_wp2_with fail
  refine l4.mono ?_
  rintro e w9 ⟨rfl, rfl⟩
  go_wp2_with fail
  refine l4.mono ?_
  rintro e w9 ⟨rfl, rfl⟩
  go_wp2_with fail
  go_ret
  exact ⟨rfl, HB8.out⟩
end Go.Proofs.Ytbiccahkniadfaa.H
