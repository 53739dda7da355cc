/- Bol2. -/
import Derived.Test.YtnbojemjaipnlaaEBol1
import Derived.Deep.RegionHeld3
namespace Go.Proofs.Ytnbojemjaipnlaa.H
open Go.RowKit Go.Proofs.Ytnbojemjaipnlaa.P Go.Proofs.YtnbojemjaipnlaaW.PrintWords Go.Proofs.YtnbojemjaipnlaaW.PrintLast Go.Proofs.YtnbojemjaipnlaaW.PrintMore
set_option linter.unusedVariables false
set_option linter.unusedSimpArgs false
set_option maxRecDepth 20000
def DoB (w : World) (hb g mb : Nat) (M' : List (Int × Ses)) (e : Ending) (w' : World) : Prop := e = .returned (.bool true) ∧ BookAt w' hb g M' ∧ DocAt w' mb M' ∧ ButS (fun k => k = g ∨ k = mb) w w'
theorem act_keep {S : Nat → Prop} {w w' : World} {b o : Nat} {v : Value} (u : ButS S w w') (hs : ¬ S b) (h : w.cell? ⟨b, o, none⟩ = some v) : w'.cell? ⟨b, o, none⟩ = some v := by
  rw [World.cell?_of_block (w := w) (u.block _ (block_lt_of_cell h) hs)]
  exact h
theorem book_drew {w : World} {hb g : Nat} {M : List (Int × Ses)} (h : BookAt w hb g M) : BookAt w.drew hb g M := h.below (below_drew (Below.refl _ w))
theorem doc_drew {w : World} {mb : Nat} {M : List (Int × Ses)} (h : DocAt w mb M) : DocAt w.drew mb M := h.below (below_drew (Below.refl _ w))
theorem but_l {g mb : Nat} {w w' : World} (h : ButS (· = g) w w') : ButS (fun k => k = g ∨ k = mb) w w' := h.weak (fun k _ q => .inl q)
theorem but_r {g mb : Nat} {w w' : World} (h : ButS (· = mb) w w') : ButS (fun k => k = g ∨ k = mb) w w' := h.weak (fun k _ q => .inr q)
set_option maxHeartbeats 4000000 in
theorem do_one (a : ActR) (hb g mb : Nat) (M : List (Int × Ses)) (w : World) (hK : BookAt w hb g M) (hD : DocAt w mb M) (hG : GoodM M) (hn : i64 a.n) (hk : a.k = 1) :
    Calls Try.prog 7 #[encA a, .pointer (some ⟨hb, 0, none⟩), .pointer (some ⟨mb, 0, none⟩)] w (DoB w hb g mb (doM M a)) := by
  have hlen : M.length ≤ 1000 := by have := good_len hG; omega
  have HB0 := Aside0.mk ((Below.refl w.heap.size w).alloc (Nat.le_refl _) (.cells #[.int .i64 a.k, .int .i64 a.n, .string a.nm, .int .i64 a.e.f0, .int .i64 a.e.f1.f0, .int .i64 a.e.f1.f1, .int .i64 a.e.f1.f2, .int .i64 a.e.f1.f3, .int .u32 a.e.f1.f4.f0, .int .u32 a.e.f1.f4.f1, .int .i64 a.e.f1.f5] 39))
  have HN0 := Aside0.mk (blk_new w (.cells #[.int .i64 a.k, .int .i64 a.n, .string a.nm, .int .i64 a.e.f0, .int .i64 a.e.f1.f0, .int .i64 a.e.f1.f1, .int .i64 a.e.f1.f2, .int .i64 a.e.f1.f3, .int .u32 a.e.f1.f4.f0, .int .u32 a.e.f1.f4.f1, .int .i64 a.e.f1.f5] 39))
  have HZG := Aside0.mk (show w.heap.size ≠ g from by have := hK.gt.1; omega)
  have HZM := Aside0.mk (show w.heap.size ≠ mb from by have := hD.lt; omega)
  have hut := Try.underlying39
  have u0 : (w.alloc (.cells #[.int .i64 a.k, .int .i64 a.n, .string a.nm, .int .i64 a.e.f0, .int .i64 a.e.f1.f0, .int .i64 a.e.f1.f1, .int .i64 a.e.f1.f2, .int .i64 a.e.f1.f3, .int .u32 a.e.f1.f4.f0, .int .u32 a.e.f1.f4.f1, .int .i64 a.e.f1.f5] 39)).cell? ⟨w.heap.size, 0, none⟩ = some (.int .i64 a.k) := blk_cell HN0.out 0
  have u1 : (w.alloc (.cells #[.int .i64 a.k, .int .i64 a.n, .string a.nm, .int .i64 a.e.f0, .int .i64 a.e.f1.f0, .int .i64 a.e.f1.f1, .int .i64 a.e.f1.f2, .int .i64 a.e.f1.f3, .int .u32 a.e.f1.f4.f0, .int .u32 a.e.f1.f4.f1, .int .i64 a.e.f1.f5] 39)).cell? ⟨w.heap.size, 1, none⟩ = some (.int .i64 a.n) := blk_cell HN0.out 1
  have u2 : (w.alloc (.cells #[.int .i64 a.k, .int .i64 a.n, .string a.nm, .int .i64 a.e.f0, .int .i64 a.e.f1.f0, .int .i64 a.e.f1.f1, .int .i64 a.e.f1.f2, .int .i64 a.e.f1.f3, .int .u32 a.e.f1.f4.f0, .int .u32 a.e.f1.f4.f1, .int .i64 a.e.f1.f5] 39)).cell? ⟨w.heap.size, 2, none⟩ = some (.string a.nm) := blk_cell HN0.out 2
  have u3 : (w.alloc (.cells #[.int .i64 a.k, .int .i64 a.n, .string a.nm, .int .i64 a.e.f0, .int .i64 a.e.f1.f0, .int .i64 a.e.f1.f1, .int .i64 a.e.f1.f2, .int .i64 a.e.f1.f3, .int .u32 a.e.f1.f4.f0, .int .u32 a.e.f1.f4.f1, .int .i64 a.e.f1.f5] 39)).cell? ⟨w.heap.size, 3, none⟩ = some (.int .i64 a.e.f0) := blk_cell HN0.out 3
  have u4 : (w.alloc (.cells #[.int .i64 a.k, .int .i64 a.n, .string a.nm, .int .i64 a.e.f0, .int .i64 a.e.f1.f0, .int .i64 a.e.f1.f1, .int .i64 a.e.f1.f2, .int .i64 a.e.f1.f3, .int .u32 a.e.f1.f4.f0, .int .u32 a.e.f1.f4.f1, .int .i64 a.e.f1.f5] 39)).cell? ⟨w.heap.size, 4, none⟩ = some (.int .i64 a.e.f1.f0) := blk_cell HN0.out 4
  have u5 : (w.alloc (.cells #[.int .i64 a.k, .int .i64 a.n, .string a.nm, .int .i64 a.e.f0, .int .i64 a.e.f1.f0, .int .i64 a.e.f1.f1, .int .i64 a.e.f1.f2, .int .i64 a.e.f1.f3, .int .u32 a.e.f1.f4.f0, .int .u32 a.e.f1.f4.f1, .int .i64 a.e.f1.f5] 39)).cell? ⟨w.heap.size, 5, none⟩ = some (.int .i64 a.e.f1.f1) := blk_cell HN0.out 5
  have u6 : (w.alloc (.cells #[.int .i64 a.k, .int .i64 a.n, .string a.nm, .int .i64 a.e.f0, .int .i64 a.e.f1.f0, .int .i64 a.e.f1.f1, .int .i64 a.e.f1.f2, .int .i64 a.e.f1.f3, .int .u32 a.e.f1.f4.f0, .int .u32 a.e.f1.f4.f1, .int .i64 a.e.f1.f5] 39)).cell? ⟨w.heap.size, 6, none⟩ = some (.int .i64 a.e.f1.f2) := blk_cell HN0.out 6
  have u7 : (w.alloc (.cells #[.int .i64 a.k, .int .i64 a.n, .string a.nm, .int .i64 a.e.f0, .int .i64 a.e.f1.f0, .int .i64 a.e.f1.f1, .int .i64 a.e.f1.f2, .int .i64 a.e.f1.f3, .int .u32 a.e.f1.f4.f0, .int .u32 a.e.f1.f4.f1, .int .i64 a.e.f1.f5] 39)).cell? ⟨w.heap.size, 7, none⟩ = some (.int .i64 a.e.f1.f3) := blk_cell HN0.out 7
  have u8 : (w.alloc (.cells #[.int .i64 a.k, .int .i64 a.n, .string a.nm, .int .i64 a.e.f0, .int .i64 a.e.f1.f0, .int .i64 a.e.f1.f1, .int .i64 a.e.f1.f2, .int .i64 a.e.f1.f3, .int .u32 a.e.f1.f4.f0, .int .u32 a.e.f1.f4.f1, .int .i64 a.e.f1.f5] 39)).cell? ⟨w.heap.size, 8, none⟩ = some (.int .u32 a.e.f1.f4.f0) := blk_cell HN0.out 8
  have u9 : (w.alloc (.cells #[.int .i64 a.k, .int .i64 a.n, .string a.nm, .int .i64 a.e.f0, .int .i64 a.e.f1.f0, .int .i64 a.e.f1.f1, .int .i64 a.e.f1.f2, .int .i64 a.e.f1.f3, .int .u32 a.e.f1.f4.f0, .int .u32 a.e.f1.f4.f1, .int .i64 a.e.f1.f5] 39)).cell? ⟨w.heap.size, 9, none⟩ = some (.int .u32 a.e.f1.f4.f1) := blk_cell HN0.out 9
  have u10 : (w.alloc (.cells #[.int .i64 a.k, .int .i64 a.n, .string a.nm, .int .i64 a.e.f0, .int .i64 a.e.f1.f0, .int .i64 a.e.f1.f1, .int .i64 a.e.f1.f2, .int .i64 a.e.f1.f3, .int .u32 a.e.f1.f4.f0, .int .u32 a.e.f1.f4.f1, .int .i64 a.e.f1.f5] 39)).cell? ⟨w.heap.size, 10, none⟩ = some (.int .i64 a.e.f1.f5) := blk_cell HN0.out 10
  have HK0 := Aside0.mk (hK.below HB0.out)
  have HD0 := Aside0.mk (hD.below HB0.out)
  have hdm : doM M a = (openM M a.nm).1 := by unfold doM; rw [if_pos hk]
  rw [hdm]
  have cb := fun W (h : BookAt W hb g M) => open_any hb g M a.nm W h hlen
  have cd := fun W (h : DocAt W mb M) => openD_any mb M a.nm W h hlen hG.up hG.key
  generalize openM M a.nm = r at cb cd hdm ⊢
  obtain ⟨M1, x, e0⟩ := r
  dsimp only at cb cd
  have CB := Aside0.mk cb
  have CD := Aside0.mk cd
  unfold encA
  rw [hk] at HB0 HN0 HK0 HD0 u0 u1 u2 u3 u4 u5 u6 u7 u8 u9 u10 ⊢
  clear hK hD hG hn hlen cb cd hdm
  go_enter Try.func7, Try.ntmps7
  go_wp2_with fail
  refine (CB.out _ HK0.out).mono ?_
  rintro e w1 ⟨rfl, hk1, hu1⟩
  have HK1 := Aside0.mk hk1
  have HD1 := Aside0.mk (doc_keep HK0.out HD0.out hu1)
  have HU1 := Aside0.mk hu1
  have u2 := act_keep hu1 HZG.out u2
  clear hk1 hu1
  go_wp2_with fail
  refine (CD.out _ HD1.out).mono ?_
  rintro e w2 ⟨rfl, hd2, hu2⟩
  have HKF := Aside0.mk (book_keep HK1.out HD1.out hu2)
  have HDF := Aside0.mk hd2
  have HUF := Aside0.mk ((ButS.of HB0.out).trans ((but_l (mb := mb) HU1.out).trans (but_r (g := g) hu2)))
  clear hd2 hu2
  go_wp2_with fail
  go_ret
  exact ⟨by first | rfl | simp, HKF.out, HDF.out, HUF.out⟩
set_option maxHeartbeats 4000000 in
theorem do_two (a : ActR) (hb g mb : Nat) (M : List (Int × Ses)) (w : World) (hK : BookAt w hb g M) (hD : DocAt w mb M) (hG : GoodM M) (hn : i64 a.n) (hk : a.k = 2) :
    Calls Try.prog 7 #[encA a, .pointer (some ⟨hb, 0, none⟩), .pointer (some ⟨mb, 0, none⟩)] w (DoB w hb g mb (doM M a)) := by
  have hlen : M.length ≤ 1000 := by have := good_len hG; omega
  have HB0 := Aside0.mk ((Below.refl w.heap.size w).alloc (Nat.le_refl _) (.cells #[.int .i64 a.k, .int .i64 a.n, .string a.nm, .int .i64 a.e.f0, .int .i64 a.e.f1.f0, .int .i64 a.e.f1.f1, .int .i64 a.e.f1.f2, .int .i64 a.e.f1.f3, .int .u32 a.e.f1.f4.f0, .int .u32 a.e.f1.f4.f1, .int .i64 a.e.f1.f5] 39))
  have HN0 := Aside0.mk (blk_new w (.cells #[.int .i64 a.k, .int .i64 a.n, .string a.nm, .int .i64 a.e.f0, .int .i64 a.e.f1.f0, .int .i64 a.e.f1.f1, .int .i64 a.e.f1.f2, .int .i64 a.e.f1.f3, .int .u32 a.e.f1.f4.f0, .int .u32 a.e.f1.f4.f1, .int .i64 a.e.f1.f5] 39))
  have HZG := Aside0.mk (show w.heap.size ≠ g from by have := hK.gt.1; omega)
  have HZM := Aside0.mk (show w.heap.size ≠ mb from by have := hD.lt; omega)
  have hut := Try.underlying39
  have u0 : (w.alloc (.cells #[.int .i64 a.k, .int .i64 a.n, .string a.nm, .int .i64 a.e.f0, .int .i64 a.e.f1.f0, .int .i64 a.e.f1.f1, .int .i64 a.e.f1.f2, .int .i64 a.e.f1.f3, .int .u32 a.e.f1.f4.f0, .int .u32 a.e.f1.f4.f1, .int .i64 a.e.f1.f5] 39)).cell? ⟨w.heap.size, 0, none⟩ = some (.int .i64 a.k) := blk_cell HN0.out 0
  have u1 : (w.alloc (.cells #[.int .i64 a.k, .int .i64 a.n, .string a.nm, .int .i64 a.e.f0, .int .i64 a.e.f1.f0, .int .i64 a.e.f1.f1, .int .i64 a.e.f1.f2, .int .i64 a.e.f1.f3, .int .u32 a.e.f1.f4.f0, .int .u32 a.e.f1.f4.f1, .int .i64 a.e.f1.f5] 39)).cell? ⟨w.heap.size, 1, none⟩ = some (.int .i64 a.n) := blk_cell HN0.out 1
  have u2 : (w.alloc (.cells #[.int .i64 a.k, .int .i64 a.n, .string a.nm, .int .i64 a.e.f0, .int .i64 a.e.f1.f0, .int .i64 a.e.f1.f1, .int .i64 a.e.f1.f2, .int .i64 a.e.f1.f3, .int .u32 a.e.f1.f4.f0, .int .u32 a.e.f1.f4.f1, .int .i64 a.e.f1.f5] 39)).cell? ⟨w.heap.size, 2, none⟩ = some (.string a.nm) := blk_cell HN0.out 2
  have u3 : (w.alloc (.cells #[.int .i64 a.k, .int .i64 a.n, .string a.nm, .int .i64 a.e.f0, .int .i64 a.e.f1.f0, .int .i64 a.e.f1.f1, .int .i64 a.e.f1.f2, .int .i64 a.e.f1.f3, .int .u32 a.e.f1.f4.f0, .int .u32 a.e.f1.f4.f1, .int .i64 a.e.f1.f5] 39)).cell? ⟨w.heap.size, 3, none⟩ = some (.int .i64 a.e.f0) := blk_cell HN0.out 3
  have u4 : (w.alloc (.cells #[.int .i64 a.k, .int .i64 a.n, .string a.nm, .int .i64 a.e.f0, .int .i64 a.e.f1.f0, .int .i64 a.e.f1.f1, .int .i64 a.e.f1.f2, .int .i64 a.e.f1.f3, .int .u32 a.e.f1.f4.f0, .int .u32 a.e.f1.f4.f1, .int .i64 a.e.f1.f5] 39)).cell? ⟨w.heap.size, 4, none⟩ = some (.int .i64 a.e.f1.f0) := blk_cell HN0.out 4
  have u5 : (w.alloc (.cells #[.int .i64 a.k, .int .i64 a.n, .string a.nm, .int .i64 a.e.f0, .int .i64 a.e.f1.f0, .int .i64 a.e.f1.f1, .int .i64 a.e.f1.f2, .int .i64 a.e.f1.f3, .int .u32 a.e.f1.f4.f0, .int .u32 a.e.f1.f4.f1, .int .i64 a.e.f1.f5] 39)).cell? ⟨w.heap.size, 5, none⟩ = some (.int .i64 a.e.f1.f1) := blk_cell HN0.out 5
  have u6 : (w.alloc (.cells #[.int .i64 a.k, .int .i64 a.n, .string a.nm, .int .i64 a.e.f0, .int .i64 a.e.f1.f0, .int .i64 a.e.f1.f1, .int .i64 a.e.f1.f2, .int .i64 a.e.f1.f3, .int .u32 a.e.f1.f4.f0, .int .u32 a.e.f1.f4.f1, .int .i64 a.e.f1.f5] 39)).cell? ⟨w.heap.size, 6, none⟩ = some (.int .i64 a.e.f1.f2) := blk_cell HN0.out 6
  have u7 : (w.alloc (.cells #[.int .i64 a.k, .int .i64 a.n, .string a.nm, .int .i64 a.e.f0, .int .i64 a.e.f1.f0, .int .i64 a.e.f1.f1, .int .i64 a.e.f1.f2, .int .i64 a.e.f1.f3, .int .u32 a.e.f1.f4.f0, .int .u32 a.e.f1.f4.f1, .int .i64 a.e.f1.f5] 39)).cell? ⟨w.heap.size, 7, none⟩ = some (.int .i64 a.e.f1.f3) := blk_cell HN0.out 7
  have u8 : (w.alloc (.cells #[.int .i64 a.k, .int .i64 a.n, .string a.nm, .int .i64 a.e.f0, .int .i64 a.e.f1.f0, .int .i64 a.e.f1.f1, .int .i64 a.e.f1.f2, .int .i64 a.e.f1.f3, .int .u32 a.e.f1.f4.f0, .int .u32 a.e.f1.f4.f1, .int .i64 a.e.f1.f5] 39)).cell? ⟨w.heap.size, 8, none⟩ = some (.int .u32 a.e.f1.f4.f0) := blk_cell HN0.out 8
  have u9 : (w.alloc (.cells #[.int .i64 a.k, .int .i64 a.n, .string a.nm, .int .i64 a.e.f0, .int .i64 a.e.f1.f0, .int .i64 a.e.f1.f1, .int .i64 a.e.f1.f2, .int .i64 a.e.f1.f3, .int .u32 a.e.f1.f4.f0, .int .u32 a.e.f1.f4.f1, .int .i64 a.e.f1.f5] 39)).cell? ⟨w.heap.size, 9, none⟩ = some (.int .u32 a.e.f1.f4.f1) := blk_cell HN0.out 9
  have u10 : (w.alloc (.cells #[.int .i64 a.k, .int .i64 a.n, .string a.nm, .int .i64 a.e.f0, .int .i64 a.e.f1.f0, .int .i64 a.e.f1.f1, .int .i64 a.e.f1.f2, .int .i64 a.e.f1.f3, .int .u32 a.e.f1.f4.f0, .int .u32 a.e.f1.f4.f1, .int .i64 a.e.f1.f5] 39)).cell? ⟨w.heap.size, 10, none⟩ = some (.int .i64 a.e.f1.f5) := blk_cell HN0.out 10
  have HK0 := Aside0.mk (hK.below HB0.out)
  have HD0 := Aside0.mk (hD.below HB0.out)
  have hdm : doM M a = closeM M a.n := by unfold doM; rw [if_neg (show ¬ a.k = 1 from by omega), if_pos hk]
  rw [hdm]
  have cb := fun W (h : BookAt W hb g M) => close_any hb g M a.n W h hn
  have cd := fun W (h : DocAt W mb M) => closeD_any mb M a.n W h hlen hG.up
  generalize closeM M a.n = M1 at cb cd hdm ⊢
  generalize errF (lookM M a.n) = v at cb cd
  have CB := Aside0.mk cb
  have CD := Aside0.mk cd
  unfold encA
  rw [hk] at HB0 HN0 HK0 HD0 u0 u1 u2 u3 u4 u5 u6 u7 u8 u9 u10 ⊢
  have HKd := Aside0.mk (book_drew HK0.out)
  have HDd := Aside0.mk (doc_drew HD0.out)
  have v1 : (w.alloc (.cells #[.int .i64 2, .int .i64 a.n, .string a.nm, .int .i64 a.e.f0, .int .i64 a.e.f1.f0, .int .i64 a.e.f1.f1, .int .i64 a.e.f1.f2, .int .i64 a.e.f1.f3, .int .u32 a.e.f1.f4.f0, .int .u32 a.e.f1.f4.f1, .int .i64 a.e.f1.f5] 39)).drew.cell? ⟨w.heap.size, 1, none⟩ = some (.int .i64 a.n) := u1
  clear hK hD hG hn hlen cb cd hdm
  go_enter Try.func7, Try.ntmps7
  go_wp2_with fail
  go_region_held3 (fun w' => w'.cell? ⟨w.heap.size, 1, none⟩ = some (.int .i64 a.n)) (first | assumption | go_keep | (refine ⟨?_, ?_⟩ <;> first | assumption | go_keep)) (first | (go_at_call 24; refine (CD.out _ HD3.out).mono ?_; rintro e w5 ⟨rfl, hd5, hu5⟩; have HKF := Aside0.mk (book_keep HK3.out HD3.out hu5); have HDF := Aside0.mk hd5; have HUF := Aside0.mk (HU3.out.trans (but_r (g := g) hu5)); have y1 := act_keep hu5 HZM.out q1; clear hd5 hu5) | (go_at_call 19; refine (CB.out _ HK4.out).mono ?_; rintro e w6 ⟨rfl, hk6, hu6⟩; have HKF := Aside0.mk hk6; have HDF := Aside0.mk (doc_keep HK4.out HD4.out hu6); have HUF := Aside0.mk (HU4.out.trans (but_l (mb := mb) hu6)); have y1 := act_keep hu6 HZG.out q1; clear hk6 hu6) | (go_at_call 19; refine (CB.out _ HKd.out).mono ?_; rintro e w3 ⟨rfl, hk3, hu3⟩; have HK3 := Aside0.mk hk3; have HD3 := Aside0.mk (doc_keep HKd.out HDd.out hu3); have HU3 := Aside0.mk (but_l (mb := mb) hu3); have q1 := act_keep hu3 HZG.out v1; clear hk3 hu3) | (go_at_call 24; refine (CD.out _ HDd.out).mono ?_; rintro e w4 ⟨rfl, hd4, hu4⟩; have HK4 := Aside0.mk (book_keep HKd.out HDd.out hu4); have HD4 := Aside0.mk hd4; have HU4 := Aside0.mk (but_r (g := g) hu4); have q1 := act_keep hu4 HZM.out v1; clear hd4 hu4))
  all_goals (go_wp2_with fail)
  all_goals go_ret
  all_goals exact ⟨by first | rfl | simp, HKF.out, HDF.out, (ButS.of (below_drew HB0.out)).trans HUF.out⟩
set_option maxHeartbeats 4000000 in
theorem do_three (a : ActR) (hb g mb : Nat) (M : List (Int × Ses)) (w : World) (hK : BookAt w hb g M) (hD : DocAt w mb M) (hG : GoodM M) (hn : i64 a.n) (hk : a.k = 3) :
    Calls Try.prog 7 #[encA a, .pointer (some ⟨hb, 0, none⟩), .pointer (some ⟨mb, 0, none⟩)] w (DoB w hb g mb (doM M a)) := by
  have hlen : M.length ≤ 1000 := by have := good_len hG; omega
  have HB0 := Aside0.mk ((Below.refl w.heap.size w).alloc (Nat.le_refl _) (.cells #[.int .i64 a.k, .int .i64 a.n, .string a.nm, .int .i64 a.e.f0, .int .i64 a.e.f1.f0, .int .i64 a.e.f1.f1, .int .i64 a.e.f1.f2, .int .i64 a.e.f1.f3, .int .u32 a.e.f1.f4.f0, .int .u32 a.e.f1.f4.f1, .int .i64 a.e.f1.f5] 39))
  have HN0 := Aside0.mk (blk_new w (.cells #[.int .i64 a.k, .int .i64 a.n, .string a.nm, .int .i64 a.e.f0, .int .i64 a.e.f1.f0, .int .i64 a.e.f1.f1, .int .i64 a.e.f1.f2, .int .i64 a.e.f1.f3, .int .u32 a.e.f1.f4.f0, .int .u32 a.e.f1.f4.f1, .int .i64 a.e.f1.f5] 39))
  have HZG := Aside0.mk (show w.heap.size ≠ g from by have := hK.gt.1; omega)
  have HZM := Aside0.mk (show w.heap.size ≠ mb from by have := hD.lt; omega)
  have hut := Try.underlying39
  have u0 : (w.alloc (.cells #[.int .i64 a.k, .int .i64 a.n, .string a.nm, .int .i64 a.e.f0, .int .i64 a.e.f1.f0, .int .i64 a.e.f1.f1, .int .i64 a.e.f1.f2, .int .i64 a.e.f1.f3, .int .u32 a.e.f1.f4.f0, .int .u32 a.e.f1.f4.f1, .int .i64 a.e.f1.f5] 39)).cell? ⟨w.heap.size, 0, none⟩ = some (.int .i64 a.k) := blk_cell HN0.out 0
  have u1 : (w.alloc (.cells #[.int .i64 a.k, .int .i64 a.n, .string a.nm, .int .i64 a.e.f0, .int .i64 a.e.f1.f0, .int .i64 a.e.f1.f1, .int .i64 a.e.f1.f2, .int .i64 a.e.f1.f3, .int .u32 a.e.f1.f4.f0, .int .u32 a.e.f1.f4.f1, .int .i64 a.e.f1.f5] 39)).cell? ⟨w.heap.size, 1, none⟩ = some (.int .i64 a.n) := blk_cell HN0.out 1
  have u2 : (w.alloc (.cells #[.int .i64 a.k, .int .i64 a.n, .string a.nm, .int .i64 a.e.f0, .int .i64 a.e.f1.f0, .int .i64 a.e.f1.f1, .int .i64 a.e.f1.f2, .int .i64 a.e.f1.f3, .int .u32 a.e.f1.f4.f0, .int .u32 a.e.f1.f4.f1, .int .i64 a.e.f1.f5] 39)).cell? ⟨w.heap.size, 2, none⟩ = some (.string a.nm) := blk_cell HN0.out 2
  have u3 : (w.alloc (.cells #[.int .i64 a.k, .int .i64 a.n, .string a.nm, .int .i64 a.e.f0, .int .i64 a.e.f1.f0, .int .i64 a.e.f1.f1, .int .i64 a.e.f1.f2, .int .i64 a.e.f1.f3, .int .u32 a.e.f1.f4.f0, .int .u32 a.e.f1.f4.f1, .int .i64 a.e.f1.f5] 39)).cell? ⟨w.heap.size, 3, none⟩ = some (.int .i64 a.e.f0) := blk_cell HN0.out 3
  have u4 : (w.alloc (.cells #[.int .i64 a.k, .int .i64 a.n, .string a.nm, .int .i64 a.e.f0, .int .i64 a.e.f1.f0, .int .i64 a.e.f1.f1, .int .i64 a.e.f1.f2, .int .i64 a.e.f1.f3, .int .u32 a.e.f1.f4.f0, .int .u32 a.e.f1.f4.f1, .int .i64 a.e.f1.f5] 39)).cell? ⟨w.heap.size, 4, none⟩ = some (.int .i64 a.e.f1.f0) := blk_cell HN0.out 4
  have u5 : (w.alloc (.cells #[.int .i64 a.k, .int .i64 a.n, .string a.nm, .int .i64 a.e.f0, .int .i64 a.e.f1.f0, .int .i64 a.e.f1.f1, .int .i64 a.e.f1.f2, .int .i64 a.e.f1.f3, .int .u32 a.e.f1.f4.f0, .int .u32 a.e.f1.f4.f1, .int .i64 a.e.f1.f5] 39)).cell? ⟨w.heap.size, 5, none⟩ = some (.int .i64 a.e.f1.f1) := blk_cell HN0.out 5
  have u6 : (w.alloc (.cells #[.int .i64 a.k, .int .i64 a.n, .string a.nm, .int .i64 a.e.f0, .int .i64 a.e.f1.f0, .int .i64 a.e.f1.f1, .int .i64 a.e.f1.f2, .int .i64 a.e.f1.f3, .int .u32 a.e.f1.f4.f0, .int .u32 a.e.f1.f4.f1, .int .i64 a.e.f1.f5] 39)).cell? ⟨w.heap.size, 6, none⟩ = some (.int .i64 a.e.f1.f2) := blk_cell HN0.out 6
  have u7 : (w.alloc (.cells #[.int .i64 a.k, .int .i64 a.n, .string a.nm, .int .i64 a.e.f0, .int .i64 a.e.f1.f0, .int .i64 a.e.f1.f1, .int .i64 a.e.f1.f2, .int .i64 a.e.f1.f3, .int .u32 a.e.f1.f4.f0, .int .u32 a.e.f1.f4.f1, .int .i64 a.e.f1.f5] 39)).cell? ⟨w.heap.size, 7, none⟩ = some (.int .i64 a.e.f1.f3) := blk_cell HN0.out 7
  have u8 : (w.alloc (.cells #[.int .i64 a.k, .int .i64 a.n, .string a.nm, .int .i64 a.e.f0, .int .i64 a.e.f1.f0, .int .i64 a.e.f1.f1, .int .i64 a.e.f1.f2, .int .i64 a.e.f1.f3, .int .u32 a.e.f1.f4.f0, .int .u32 a.e.f1.f4.f1, .int .i64 a.e.f1.f5] 39)).cell? ⟨w.heap.size, 8, none⟩ = some (.int .u32 a.e.f1.f4.f0) := blk_cell HN0.out 8
  have u9 : (w.alloc (.cells #[.int .i64 a.k, .int .i64 a.n, .string a.nm, .int .i64 a.e.f0, .int .i64 a.e.f1.f0, .int .i64 a.e.f1.f1, .int .i64 a.e.f1.f2, .int .i64 a.e.f1.f3, .int .u32 a.e.f1.f4.f0, .int .u32 a.e.f1.f4.f1, .int .i64 a.e.f1.f5] 39)).cell? ⟨w.heap.size, 9, none⟩ = some (.int .u32 a.e.f1.f4.f1) := blk_cell HN0.out 9
  have u10 : (w.alloc (.cells #[.int .i64 a.k, .int .i64 a.n, .string a.nm, .int .i64 a.e.f0, .int .i64 a.e.f1.f0, .int .i64 a.e.f1.f1, .int .i64 a.e.f1.f2, .int .i64 a.e.f1.f3, .int .u32 a.e.f1.f4.f0, .int .u32 a.e.f1.f4.f1, .int .i64 a.e.f1.f5] 39)).cell? ⟨w.heap.size, 10, none⟩ = some (.int .i64 a.e.f1.f5) := blk_cell HN0.out 10
  have HK0 := Aside0.mk (hK.below HB0.out)
  have HD0 := Aside0.mk (hD.below HB0.out)
  have hdm : doM M a = (switchM M a.n a.nm).1 := by unfold doM; rw [if_neg (show ¬ a.k = 1 from by omega), if_neg (show ¬ a.k = 2 from by omega), if_pos hk]
  rw [hdm]
  have cb := fun W (h : BookAt W hb g M) => switch_any hb g M a.n a.nm W h hn hlen
  have cd := fun W (h : DocAt W mb M) => switchD_any mb M a.n a.nm W h hlen hG.up
  generalize switchM M a.n a.nm = r at cb cd hdm ⊢
  obtain ⟨M1, v⟩ := r
  dsimp only at cb cd
  have CB := Aside0.mk cb
  have CD := Aside0.mk cd
  unfold encA
  rw [hk] at HB0 HN0 HK0 HD0 u0 u1 u2 u3 u4 u5 u6 u7 u8 u9 u10 ⊢
  have HKd := Aside0.mk (book_drew HK0.out)
  have HDd := Aside0.mk (doc_drew HD0.out)
  have v1 : (w.alloc (.cells #[.int .i64 3, .int .i64 a.n, .string a.nm, .int .i64 a.e.f0, .int .i64 a.e.f1.f0, .int .i64 a.e.f1.f1, .int .i64 a.e.f1.f2, .int .i64 a.e.f1.f3, .int .u32 a.e.f1.f4.f0, .int .u32 a.e.f1.f4.f1, .int .i64 a.e.f1.f5] 39)).drew.cell? ⟨w.heap.size, 1, none⟩ = some (.int .i64 a.n) := u1
  have v2 : (w.alloc (.cells #[.int .i64 3, .int .i64 a.n, .string a.nm, .int .i64 a.e.f0, .int .i64 a.e.f1.f0, .int .i64 a.e.f1.f1, .int .i64 a.e.f1.f2, .int .i64 a.e.f1.f3, .int .u32 a.e.f1.f4.f0, .int .u32 a.e.f1.f4.f1, .int .i64 a.e.f1.f5] 39)).drew.cell? ⟨w.heap.size, 2, none⟩ = some (.string a.nm) := u2
  clear hK hD hG hn hlen cb cd hdm
  go_enter Try.func7, Try.ntmps7
  go_wp2_with fail
  go_region_held3 (fun w' => w'.cell? ⟨w.heap.size, 1, none⟩ = some (.int .i64 a.n) ∧ w'.cell? ⟨w.heap.size, 2, none⟩ = some (.string a.nm)) (first | assumption | go_keep | (refine ⟨?_, ?_⟩ <;> first | assumption | go_keep)) (first | (go_at_call 25; refine (CD.out _ HD3.out).mono ?_; rintro e w5 ⟨rfl, hd5, hu5⟩; have HKF := Aside0.mk (book_keep HK3.out HD3.out hu5); have HDF := Aside0.mk hd5; have HUF := Aside0.mk (HU3.out.trans (but_r (g := g) hu5)); have y1 := act_keep hu5 HZM.out q1; have y2 := act_keep hu5 HZM.out q2; clear hd5 hu5) | (go_at_call 20; refine (CB.out _ HK4.out).mono ?_; rintro e w6 ⟨rfl, hk6, hu6⟩; have HKF := Aside0.mk hk6; have HDF := Aside0.mk (doc_keep HK4.out HD4.out hu6); have HUF := Aside0.mk (HU4.out.trans (but_l (mb := mb) hu6)); have y1 := act_keep hu6 HZG.out q1; have y2 := act_keep hu6 HZG.out q2; clear hk6 hu6) | (go_at_call 20; refine (CB.out _ HKd.out).mono ?_; rintro e w3 ⟨rfl, hk3, hu3⟩; have HK3 := Aside0.mk hk3; have HD3 := Aside0.mk (doc_keep HKd.out HDd.out hu3); have HU3 := Aside0.mk (but_l (mb := mb) hu3); have q1 := act_keep hu3 HZG.out v1; have q2 := act_keep hu3 HZG.out v2; clear hk3 hu3) | (go_at_call 25; refine (CD.out _ HDd.out).mono ?_; rintro e w4 ⟨rfl, hd4, hu4⟩; have HK4 := Aside0.mk (book_keep HKd.out HDd.out hu4); have HD4 := Aside0.mk hd4; have HU4 := Aside0.mk (but_r (g := g) hu4); have q1 := act_keep hu4 HZM.out v1; have q2 := act_keep hu4 HZM.out v2; clear hd4 hu4))
  all_goals (go_wp2_with fail)
  all_goals go_ret
  all_goals exact ⟨by first | rfl | simp, HKF.out, HDF.out, (ButS.of (below_drew HB0.out)).trans HUF.out⟩
set_option maxHeartbeats 4000000 in
theorem do_four (a : ActR) (hb g mb : Nat) (M : List (Int × Ses)) (w : World) (hK : BookAt w hb g M) (hD : DocAt w mb M) (hG : GoodM M) (hn : i64 a.n) (hk : a.k = 4) :
    Calls Try.prog 7 #[encA a, .pointer (some ⟨hb, 0, none⟩), .pointer (some ⟨mb, 0, none⟩)] w (DoB w hb g mb (doM M a)) := by
  have hlen : M.length ≤ 1000 := by have := good_len hG; omega
  have HB0 := Aside0.mk ((Below.refl w.heap.size w).alloc (Nat.le_refl _) (.cells #[.int .i64 a.k, .int .i64 a.n, .string a.nm, .int .i64 a.e.f0, .int .i64 a.e.f1.f0, .int .i64 a.e.f1.f1, .int .i64 a.e.f1.f2, .int .i64 a.e.f1.f3, .int .u32 a.e.f1.f4.f0, .int .u32 a.e.f1.f4.f1, .int .i64 a.e.f1.f5] 39))
  have HN0 := Aside0.mk (blk_new w (.cells #[.int .i64 a.k, .int .i64 a.n, .string a.nm, .int .i64 a.e.f0, .int .i64 a.e.f1.f0, .int .i64 a.e.f1.f1, .int .i64 a.e.f1.f2, .int .i64 a.e.f1.f3, .int .u32 a.e.f1.f4.f0, .int .u32 a.e.f1.f4.f1, .int .i64 a.e.f1.f5] 39))
  have HZG := Aside0.mk (show w.heap.size ≠ g from by have := hK.gt.1; omega)
  have HZM := Aside0.mk (show w.heap.size ≠ mb from by have := hD.lt; omega)
  have hut := Try.underlying39
  have u0 : (w.alloc (.cells #[.int .i64 a.k, .int .i64 a.n, .string a.nm, .int .i64 a.e.f0, .int .i64 a.e.f1.f0, .int .i64 a.e.f1.f1, .int .i64 a.e.f1.f2, .int .i64 a.e.f1.f3, .int .u32 a.e.f1.f4.f0, .int .u32 a.e.f1.f4.f1, .int .i64 a.e.f1.f5] 39)).cell? ⟨w.heap.size, 0, none⟩ = some (.int .i64 a.k) := blk_cell HN0.out 0
  have u1 : (w.alloc (.cells #[.int .i64 a.k, .int .i64 a.n, .string a.nm, .int .i64 a.e.f0, .int .i64 a.e.f1.f0, .int .i64 a.e.f1.f1, .int .i64 a.e.f1.f2, .int .i64 a.e.f1.f3, .int .u32 a.e.f1.f4.f0, .int .u32 a.e.f1.f4.f1, .int .i64 a.e.f1.f5] 39)).cell? ⟨w.heap.size, 1, none⟩ = some (.int .i64 a.n) := blk_cell HN0.out 1
  have u2 : (w.alloc (.cells #[.int .i64 a.k, .int .i64 a.n, .string a.nm, .int .i64 a.e.f0, .int .i64 a.e.f1.f0, .int .i64 a.e.f1.f1, .int .i64 a.e.f1.f2, .int .i64 a.e.f1.f3, .int .u32 a.e.f1.f4.f0, .int .u32 a.e.f1.f4.f1, .int .i64 a.e.f1.f5] 39)).cell? ⟨w.heap.size, 2, none⟩ = some (.string a.nm) := blk_cell HN0.out 2
  have u3 : (w.alloc (.cells #[.int .i64 a.k, .int .i64 a.n, .string a.nm, .int .i64 a.e.f0, .int .i64 a.e.f1.f0, .int .i64 a.e.f1.f1, .int .i64 a.e.f1.f2, .int .i64 a.e.f1.f3, .int .u32 a.e.f1.f4.f0, .int .u32 a.e.f1.f4.f1, .int .i64 a.e.f1.f5] 39)).cell? ⟨w.heap.size, 3, none⟩ = some (.int .i64 a.e.f0) := blk_cell HN0.out 3
  have u4 : (w.alloc (.cells #[.int .i64 a.k, .int .i64 a.n, .string a.nm, .int .i64 a.e.f0, .int .i64 a.e.f1.f0, .int .i64 a.e.f1.f1, .int .i64 a.e.f1.f2, .int .i64 a.e.f1.f3, .int .u32 a.e.f1.f4.f0, .int .u32 a.e.f1.f4.f1, .int .i64 a.e.f1.f5] 39)).cell? ⟨w.heap.size, 4, none⟩ = some (.int .i64 a.e.f1.f0) := blk_cell HN0.out 4
  have u5 : (w.alloc (.cells #[.int .i64 a.k, .int .i64 a.n, .string a.nm, .int .i64 a.e.f0, .int .i64 a.e.f1.f0, .int .i64 a.e.f1.f1, .int .i64 a.e.f1.f2, .int .i64 a.e.f1.f3, .int .u32 a.e.f1.f4.f0, .int .u32 a.e.f1.f4.f1, .int .i64 a.e.f1.f5] 39)).cell? ⟨w.heap.size, 5, none⟩ = some (.int .i64 a.e.f1.f1) := blk_cell HN0.out 5
  have u6 : (w.alloc (.cells #[.int .i64 a.k, .int .i64 a.n, .string a.nm, .int .i64 a.e.f0, .int .i64 a.e.f1.f0, .int .i64 a.e.f1.f1, .int .i64 a.e.f1.f2, .int .i64 a.e.f1.f3, .int .u32 a.e.f1.f4.f0, .int .u32 a.e.f1.f4.f1, .int .i64 a.e.f1.f5] 39)).cell? ⟨w.heap.size, 6, none⟩ = some (.int .i64 a.e.f1.f2) := blk_cell HN0.out 6
  have u7 : (w.alloc (.cells #[.int .i64 a.k, .int .i64 a.n, .string a.nm, .int .i64 a.e.f0, .int .i64 a.e.f1.f0, .int .i64 a.e.f1.f1, .int .i64 a.e.f1.f2, .int .i64 a.e.f1.f3, .int .u32 a.e.f1.f4.f0, .int .u32 a.e.f1.f4.f1, .int .i64 a.e.f1.f5] 39)).cell? ⟨w.heap.size, 7, none⟩ = some (.int .i64 a.e.f1.f3) := blk_cell HN0.out 7
  have u8 : (w.alloc (.cells #[.int .i64 a.k, .int .i64 a.n, .string a.nm, .int .i64 a.e.f0, .int .i64 a.e.f1.f0, .int .i64 a.e.f1.f1, .int .i64 a.e.f1.f2, .int .i64 a.e.f1.f3, .int .u32 a.e.f1.f4.f0, .int .u32 a.e.f1.f4.f1, .int .i64 a.e.f1.f5] 39)).cell? ⟨w.heap.size, 8, none⟩ = some (.int .u32 a.e.f1.f4.f0) := blk_cell HN0.out 8
  have u9 : (w.alloc (.cells #[.int .i64 a.k, .int .i64 a.n, .string a.nm, .int .i64 a.e.f0, .int .i64 a.e.f1.f0, .int .i64 a.e.f1.f1, .int .i64 a.e.f1.f2, .int .i64 a.e.f1.f3, .int .u32 a.e.f1.f4.f0, .int .u32 a.e.f1.f4.f1, .int .i64 a.e.f1.f5] 39)).cell? ⟨w.heap.size, 9, none⟩ = some (.int .u32 a.e.f1.f4.f1) := blk_cell HN0.out 9
  have u10 : (w.alloc (.cells #[.int .i64 a.k, .int .i64 a.n, .string a.nm, .int .i64 a.e.f0, .int .i64 a.e.f1.f0, .int .i64 a.e.f1.f1, .int .i64 a.e.f1.f2, .int .i64 a.e.f1.f3, .int .u32 a.e.f1.f4.f0, .int .u32 a.e.f1.f4.f1, .int .i64 a.e.f1.f5] 39)).cell? ⟨w.heap.size, 10, none⟩ = some (.int .i64 a.e.f1.f5) := blk_cell HN0.out 10
  have HK0 := Aside0.mk (hK.below HB0.out)
  have HD0 := Aside0.mk (hD.below HB0.out)
  have hdm : doM M a = (stageM M a.n a.e).1 := by unfold doM; rw [if_neg (show ¬ a.k = 1 from by omega), if_neg (show ¬ a.k = 2 from by omega), if_neg (show ¬ a.k = 3 from by omega), if_pos hk]
  rw [hdm]
  have cb := fun W (h : BookAt W hb g M) => stage_any hb g M a.n a.e W h hn hlen
  have cd := fun W (h : DocAt W mb M) => stageD_any mb M a.n a.e W h hlen hG.up
  unfold encEd at cb cd
  generalize stageM M a.n a.e = r at cb cd hdm ⊢
  obtain ⟨M1, v⟩ := r
  dsimp only at cb cd
  have CB := Aside0.mk cb
  have CD := Aside0.mk cd
  unfold encA
  rw [hk] at HB0 HN0 HK0 HD0 u0 u1 u2 u3 u4 u5 u6 u7 u8 u9 u10 ⊢
  have HKd := Aside0.mk (book_drew HK0.out)
  have HDd := Aside0.mk (doc_drew HD0.out)
  have v1 : (w.alloc (.cells #[.int .i64 4, .int .i64 a.n, .string a.nm, .int .i64 a.e.f0, .int .i64 a.e.f1.f0, .int .i64 a.e.f1.f1, .int .i64 a.e.f1.f2, .int .i64 a.e.f1.f3, .int .u32 a.e.f1.f4.f0, .int .u32 a.e.f1.f4.f1, .int .i64 a.e.f1.f5] 39)).drew.cell? ⟨w.heap.size, 1, none⟩ = some (.int .i64 a.n) := u1
  have v3 : (w.alloc (.cells #[.int .i64 4, .int .i64 a.n, .string a.nm, .int .i64 a.e.f0, .int .i64 a.e.f1.f0, .int .i64 a.e.f1.f1, .int .i64 a.e.f1.f2, .int .i64 a.e.f1.f3, .int .u32 a.e.f1.f4.f0, .int .u32 a.e.f1.f4.f1, .int .i64 a.e.f1.f5] 39)).drew.cell? ⟨w.heap.size, 3, none⟩ = some (.int .i64 a.e.f0) := u3
  have v4 : (w.alloc (.cells #[.int .i64 4, .int .i64 a.n, .string a.nm, .int .i64 a.e.f0, .int .i64 a.e.f1.f0, .int .i64 a.e.f1.f1, .int .i64 a.e.f1.f2, .int .i64 a.e.f1.f3, .int .u32 a.e.f1.f4.f0, .int .u32 a.e.f1.f4.f1, .int .i64 a.e.f1.f5] 39)).drew.cell? ⟨w.heap.size, 4, none⟩ = some (.int .i64 a.e.f1.f0) := u4
  have v5 : (w.alloc (.cells #[.int .i64 4, .int .i64 a.n, .string a.nm, .int .i64 a.e.f0, .int .i64 a.e.f1.f0, .int .i64 a.e.f1.f1, .int .i64 a.e.f1.f2, .int .i64 a.e.f1.f3, .int .u32 a.e.f1.f4.f0, .int .u32 a.e.f1.f4.f1, .int .i64 a.e.f1.f5] 39)).drew.cell? ⟨w.heap.size, 5, none⟩ = some (.int .i64 a.e.f1.f1) := u5
  have v6 : (w.alloc (.cells #[.int .i64 4, .int .i64 a.n, .string a.nm, .int .i64 a.e.f0, .int .i64 a.e.f1.f0, .int .i64 a.e.f1.f1, .int .i64 a.e.f1.f2, .int .i64 a.e.f1.f3, .int .u32 a.e.f1.f4.f0, .int .u32 a.e.f1.f4.f1, .int .i64 a.e.f1.f5] 39)).drew.cell? ⟨w.heap.size, 6, none⟩ = some (.int .i64 a.e.f1.f2) := u6
  have v7 : (w.alloc (.cells #[.int .i64 4, .int .i64 a.n, .string a.nm, .int .i64 a.e.f0, .int .i64 a.e.f1.f0, .int .i64 a.e.f1.f1, .int .i64 a.e.f1.f2, .int .i64 a.e.f1.f3, .int .u32 a.e.f1.f4.f0, .int .u32 a.e.f1.f4.f1, .int .i64 a.e.f1.f5] 39)).drew.cell? ⟨w.heap.size, 7, none⟩ = some (.int .i64 a.e.f1.f3) := u7
  have v8 : (w.alloc (.cells #[.int .i64 4, .int .i64 a.n, .string a.nm, .int .i64 a.e.f0, .int .i64 a.e.f1.f0, .int .i64 a.e.f1.f1, .int .i64 a.e.f1.f2, .int .i64 a.e.f1.f3, .int .u32 a.e.f1.f4.f0, .int .u32 a.e.f1.f4.f1, .int .i64 a.e.f1.f5] 39)).drew.cell? ⟨w.heap.size, 8, none⟩ = some (.int .u32 a.e.f1.f4.f0) := u8
  have v9 : (w.alloc (.cells #[.int .i64 4, .int .i64 a.n, .string a.nm, .int .i64 a.e.f0, .int .i64 a.e.f1.f0, .int .i64 a.e.f1.f1, .int .i64 a.e.f1.f2, .int .i64 a.e.f1.f3, .int .u32 a.e.f1.f4.f0, .int .u32 a.e.f1.f4.f1, .int .i64 a.e.f1.f5] 39)).drew.cell? ⟨w.heap.size, 9, none⟩ = some (.int .u32 a.e.f1.f4.f1) := u9
  have v10 : (w.alloc (.cells #[.int .i64 4, .int .i64 a.n, .string a.nm, .int .i64 a.e.f0, .int .i64 a.e.f1.f0, .int .i64 a.e.f1.f1, .int .i64 a.e.f1.f2, .int .i64 a.e.f1.f3, .int .u32 a.e.f1.f4.f0, .int .u32 a.e.f1.f4.f1, .int .i64 a.e.f1.f5] 39)).drew.cell? ⟨w.heap.size, 10, none⟩ = some (.int .i64 a.e.f1.f5) := u10
  clear hK hD hG hn hlen cb cd hdm
  go_enter Try.func7, Try.ntmps7
  go_wp2_with fail
  go_region_held3 (fun w' => w'.cell? ⟨w.heap.size, 1, none⟩ = some (.int .i64 a.n) ∧ w'.cell? ⟨w.heap.size, 3, none⟩ = some (.int .i64 a.e.f0) ∧ w'.cell? ⟨w.heap.size, 4, none⟩ = some (.int .i64 a.e.f1.f0) ∧ w'.cell? ⟨w.heap.size, 5, none⟩ = some (.int .i64 a.e.f1.f1) ∧ w'.cell? ⟨w.heap.size, 6, none⟩ = some (.int .i64 a.e.f1.f2) ∧ w'.cell? ⟨w.heap.size, 7, none⟩ = some (.int .i64 a.e.f1.f3) ∧ w'.cell? ⟨w.heap.size, 8, none⟩ = some (.int .u32 a.e.f1.f4.f0) ∧ w'.cell? ⟨w.heap.size, 9, none⟩ = some (.int .u32 a.e.f1.f4.f1) ∧ w'.cell? ⟨w.heap.size, 10, none⟩ = some (.int .i64 a.e.f1.f5)) (first | assumption | go_keep | (refine ⟨?_, ?_⟩ <;> first | assumption | go_keep)) (first | (go_at_call 26; refine (CD.out _ HD3.out).mono ?_; rintro e w5 ⟨rfl, hd5, hu5⟩; have HKF := Aside0.mk (book_keep HK3.out HD3.out hu5); have HDF := Aside0.mk hd5; have HUF := Aside0.mk (HU3.out.trans (but_r (g := g) hu5)); have y1 := act_keep hu5 HZM.out q1; have y3 := act_keep hu5 HZM.out q3; have y4 := act_keep hu5 HZM.out q4; have y5 := act_keep hu5 HZM.out q5; have y6 := act_keep hu5 HZM.out q6; have y7 := act_keep hu5 HZM.out q7; have y8 := act_keep hu5 HZM.out q8; have y9 := act_keep hu5 HZM.out q9; have y10 := act_keep hu5 HZM.out q10; clear hd5 hu5) | (go_at_call 21; refine (CB.out _ HK4.out).mono ?_; rintro e w6 ⟨rfl, hk6, hu6⟩; have HKF := Aside0.mk hk6; have HDF := Aside0.mk (doc_keep HK4.out HD4.out hu6); have HUF := Aside0.mk (HU4.out.trans (but_l (mb := mb) hu6)); have y1 := act_keep hu6 HZG.out q1; have y3 := act_keep hu6 HZG.out q3; have y4 := act_keep hu6 HZG.out q4; have y5 := act_keep hu6 HZG.out q5; have y6 := act_keep hu6 HZG.out q6; have y7 := act_keep hu6 HZG.out q7; have y8 := act_keep hu6 HZG.out q8; have y9 := act_keep hu6 HZG.out q9; have y10 := act_keep hu6 HZG.out q10; clear hk6 hu6) | (go_at_call 21; refine (CB.out _ HKd.out).mono ?_; rintro e w3 ⟨rfl, hk3, hu3⟩; have HK3 := Aside0.mk hk3; have HD3 := Aside0.mk (doc_keep HKd.out HDd.out hu3); have HU3 := Aside0.mk (but_l (mb := mb) hu3); have q1 := act_keep hu3 HZG.out v1; have q3 := act_keep hu3 HZG.out v3; have q4 := act_keep hu3 HZG.out v4; have q5 := act_keep hu3 HZG.out v5; have q6 := act_keep hu3 HZG.out v6; have q7 := act_keep hu3 HZG.out v7; have q8 := act_keep hu3 HZG.out v8; have q9 := act_keep hu3 HZG.out v9; have q10 := act_keep hu3 HZG.out v10; clear hk3 hu3) | (go_at_call 26; refine (CD.out _ HDd.out).mono ?_; rintro e w4 ⟨rfl, hd4, hu4⟩; have HK4 := Aside0.mk (book_keep HKd.out HDd.out hu4); have HD4 := Aside0.mk hd4; have HU4 := Aside0.mk (but_r (g := g) hu4); have q1 := act_keep hu4 HZM.out v1; have q3 := act_keep hu4 HZM.out v3; have q4 := act_keep hu4 HZM.out v4; have q5 := act_keep hu4 HZM.out v5; have q6 := act_keep hu4 HZM.out v6; have q7 := act_keep hu4 HZM.out v7; have q8 := act_keep hu4 HZM.out v8; have q9 := act_keep hu4 HZM.out v9; have q10 := act_keep hu4 HZM.out v10; clear hd4 hu4))
  all_goals (go_wp2_with fail)
  all_goals go_ret
  all_goals exact ⟨by first | rfl | simp, HKF.out, HDF.out, (ButS.of (below_drew HB0.out)).trans HUF.out⟩
set_option maxHeartbeats 4000000 in
theorem do_five (a : ActR) (hb g mb : Nat) (M : List (Int × Ses)) (w : World) (hK : BookAt w hb g M) (hD : DocAt w mb M) (hG : GoodM M) (hn : i64 a.n) (hk : a.k = 5) :
    Calls Try.prog 7 #[encA a, .pointer (some ⟨hb, 0, none⟩), .pointer (some ⟨mb, 0, none⟩)] w (DoB w hb g mb (doM M a)) := by
  have hlen : M.length ≤ 1000 := by have := good_len hG; omega
  have HB0 := Aside0.mk ((Below.refl w.heap.size w).alloc (Nat.le_refl _) (.cells #[.int .i64 a.k, .int .i64 a.n, .string a.nm, .int .i64 a.e.f0, .int .i64 a.e.f1.f0, .int .i64 a.e.f1.f1, .int .i64 a.e.f1.f2, .int .i64 a.e.f1.f3, .int .u32 a.e.f1.f4.f0, .int .u32 a.e.f1.f4.f1, .int .i64 a.e.f1.f5] 39))
  have HN0 := Aside0.mk (blk_new w (.cells #[.int .i64 a.k, .int .i64 a.n, .string a.nm, .int .i64 a.e.f0, .int .i64 a.e.f1.f0, .int .i64 a.e.f1.f1, .int .i64 a.e.f1.f2, .int .i64 a.e.f1.f3, .int .u32 a.e.f1.f4.f0, .int .u32 a.e.f1.f4.f1, .int .i64 a.e.f1.f5] 39))
  have HZG := Aside0.mk (show w.heap.size ≠ g from by have := hK.gt.1; omega)
  have HZM := Aside0.mk (show w.heap.size ≠ mb from by have := hD.lt; omega)
  have hut := Try.underlying39
  have u0 : (w.alloc (.cells #[.int .i64 a.k, .int .i64 a.n, .string a.nm, .int .i64 a.e.f0, .int .i64 a.e.f1.f0, .int .i64 a.e.f1.f1, .int .i64 a.e.f1.f2, .int .i64 a.e.f1.f3, .int .u32 a.e.f1.f4.f0, .int .u32 a.e.f1.f4.f1, .int .i64 a.e.f1.f5] 39)).cell? ⟨w.heap.size, 0, none⟩ = some (.int .i64 a.k) := blk_cell HN0.out 0
  have u1 : (w.alloc (.cells #[.int .i64 a.k, .int .i64 a.n, .string a.nm, .int .i64 a.e.f0, .int .i64 a.e.f1.f0, .int .i64 a.e.f1.f1, .int .i64 a.e.f1.f2, .int .i64 a.e.f1.f3, .int .u32 a.e.f1.f4.f0, .int .u32 a.e.f1.f4.f1, .int .i64 a.e.f1.f5] 39)).cell? ⟨w.heap.size, 1, none⟩ = some (.int .i64 a.n) := blk_cell HN0.out 1
  have u2 : (w.alloc (.cells #[.int .i64 a.k, .int .i64 a.n, .string a.nm, .int .i64 a.e.f0, .int .i64 a.e.f1.f0, .int .i64 a.e.f1.f1, .int .i64 a.e.f1.f2, .int .i64 a.e.f1.f3, .int .u32 a.e.f1.f4.f0, .int .u32 a.e.f1.f4.f1, .int .i64 a.e.f1.f5] 39)).cell? ⟨w.heap.size, 2, none⟩ = some (.string a.nm) := blk_cell HN0.out 2
  have u3 : (w.alloc (.cells #[.int .i64 a.k, .int .i64 a.n, .string a.nm, .int .i64 a.e.f0, .int .i64 a.e.f1.f0, .int .i64 a.e.f1.f1, .int .i64 a.e.f1.f2, .int .i64 a.e.f1.f3, .int .u32 a.e.f1.f4.f0, .int .u32 a.e.f1.f4.f1, .int .i64 a.e.f1.f5] 39)).cell? ⟨w.heap.size, 3, none⟩ = some (.int .i64 a.e.f0) := blk_cell HN0.out 3
  have u4 : (w.alloc (.cells #[.int .i64 a.k, .int .i64 a.n, .string a.nm, .int .i64 a.e.f0, .int .i64 a.e.f1.f0, .int .i64 a.e.f1.f1, .int .i64 a.e.f1.f2, .int .i64 a.e.f1.f3, .int .u32 a.e.f1.f4.f0, .int .u32 a.e.f1.f4.f1, .int .i64 a.e.f1.f5] 39)).cell? ⟨w.heap.size, 4, none⟩ = some (.int .i64 a.e.f1.f0) := blk_cell HN0.out 4
  have u5 : (w.alloc (.cells #[.int .i64 a.k, .int .i64 a.n, .string a.nm, .int .i64 a.e.f0, .int .i64 a.e.f1.f0, .int .i64 a.e.f1.f1, .int .i64 a.e.f1.f2, .int .i64 a.e.f1.f3, .int .u32 a.e.f1.f4.f0, .int .u32 a.e.f1.f4.f1, .int .i64 a.e.f1.f5] 39)).cell? ⟨w.heap.size, 5, none⟩ = some (.int .i64 a.e.f1.f1) := blk_cell HN0.out 5
  have u6 : (w.alloc (.cells #[.int .i64 a.k, .int .i64 a.n, .string a.nm, .int .i64 a.e.f0, .int .i64 a.e.f1.f0, .int .i64 a.e.f1.f1, .int .i64 a.e.f1.f2, .int .i64 a.e.f1.f3, .int .u32 a.e.f1.f4.f0, .int .u32 a.e.f1.f4.f1, .int .i64 a.e.f1.f5] 39)).cell? ⟨w.heap.size, 6, none⟩ = some (.int .i64 a.e.f1.f2) := blk_cell HN0.out 6
  have u7 : (w.alloc (.cells #[.int .i64 a.k, .int .i64 a.n, .string a.nm, .int .i64 a.e.f0, .int .i64 a.e.f1.f0, .int .i64 a.e.f1.f1, .int .i64 a.e.f1.f2, .int .i64 a.e.f1.f3, .int .u32 a.e.f1.f4.f0, .int .u32 a.e.f1.f4.f1, .int .i64 a.e.f1.f5] 39)).cell? ⟨w.heap.size, 7, none⟩ = some (.int .i64 a.e.f1.f3) := blk_cell HN0.out 7
  have u8 : (w.alloc (.cells #[.int .i64 a.k, .int .i64 a.n, .string a.nm, .int .i64 a.e.f0, .int .i64 a.e.f1.f0, .int .i64 a.e.f1.f1, .int .i64 a.e.f1.f2, .int .i64 a.e.f1.f3, .int .u32 a.e.f1.f4.f0, .int .u32 a.e.f1.f4.f1, .int .i64 a.e.f1.f5] 39)).cell? ⟨w.heap.size, 8, none⟩ = some (.int .u32 a.e.f1.f4.f0) := blk_cell HN0.out 8
  have u9 : (w.alloc (.cells #[.int .i64 a.k, .int .i64 a.n, .string a.nm, .int .i64 a.e.f0, .int .i64 a.e.f1.f0, .int .i64 a.e.f1.f1, .int .i64 a.e.f1.f2, .int .i64 a.e.f1.f3, .int .u32 a.e.f1.f4.f0, .int .u32 a.e.f1.f4.f1, .int .i64 a.e.f1.f5] 39)).cell? ⟨w.heap.size, 9, none⟩ = some (.int .u32 a.e.f1.f4.f1) := blk_cell HN0.out 9
  have u10 : (w.alloc (.cells #[.int .i64 a.k, .int .i64 a.n, .string a.nm, .int .i64 a.e.f0, .int .i64 a.e.f1.f0, .int .i64 a.e.f1.f1, .int .i64 a.e.f1.f2, .int .i64 a.e.f1.f3, .int .u32 a.e.f1.f4.f0, .int .u32 a.e.f1.f4.f1, .int .i64 a.e.f1.f5] 39)).cell? ⟨w.heap.size, 10, none⟩ = some (.int .i64 a.e.f1.f5) := blk_cell HN0.out 10
  have HK0 := Aside0.mk (hK.below HB0.out)
  have HD0 := Aside0.mk (hD.below HB0.out)
  have hdm : doM M a = clearM M a.n := by unfold doM; rw [if_neg (show ¬ a.k = 1 from by omega), if_neg (show ¬ a.k = 2 from by omega), if_neg (show ¬ a.k = 3 from by omega), if_neg (show ¬ a.k = 4 from by omega), if_pos hk]
  rw [hdm]
  have cb := fun W (h : BookAt W hb g M) => clear_any hb g M a.n W h hn hlen
  have cd := fun W (h : DocAt W mb M) => clearD_any mb M a.n W h hlen hG.up
  generalize clearM M a.n = M1 at cb cd hdm ⊢
  generalize errF (lookM M a.n) = v at cb cd
  have CB := Aside0.mk cb
  have CD := Aside0.mk cd
  unfold encA
  rw [hk] at HB0 HN0 HK0 HD0 u0 u1 u2 u3 u4 u5 u6 u7 u8 u9 u10 ⊢
  have HKd := Aside0.mk (book_drew HK0.out)
  have HDd := Aside0.mk (doc_drew HD0.out)
  have v1 : (w.alloc (.cells #[.int .i64 5, .int .i64 a.n, .string a.nm, .int .i64 a.e.f0, .int .i64 a.e.f1.f0, .int .i64 a.e.f1.f1, .int .i64 a.e.f1.f2, .int .i64 a.e.f1.f3, .int .u32 a.e.f1.f4.f0, .int .u32 a.e.f1.f4.f1, .int .i64 a.e.f1.f5] 39)).drew.cell? ⟨w.heap.size, 1, none⟩ = some (.int .i64 a.n) := u1
  clear hK hD hG hn hlen cb cd hdm
  go_enter Try.func7, Try.ntmps7
  go_wp2_with fail
  go_region_held3 (fun w' => w'.cell? ⟨w.heap.size, 1, none⟩ = some (.int .i64 a.n)) (first | assumption | go_keep | (refine ⟨?_, ?_⟩ <;> first | assumption | go_keep)) (first | (go_at_call 27; refine (CD.out _ HD3.out).mono ?_; rintro e w5 ⟨rfl, hd5, hu5⟩; have HKF := Aside0.mk (book_keep HK3.out HD3.out hu5); have HDF := Aside0.mk hd5; have HUF := Aside0.mk (HU3.out.trans (but_r (g := g) hu5)); have y1 := act_keep hu5 HZM.out q1; clear hd5 hu5) | (go_at_call 22; refine (CB.out _ HK4.out).mono ?_; rintro e w6 ⟨rfl, hk6, hu6⟩; have HKF := Aside0.mk hk6; have HDF := Aside0.mk (doc_keep HK4.out HD4.out hu6); have HUF := Aside0.mk (HU4.out.trans (but_l (mb := mb) hu6)); have y1 := act_keep hu6 HZG.out q1; clear hk6 hu6) | (go_at_call 22; refine (CB.out _ HKd.out).mono ?_; rintro e w3 ⟨rfl, hk3, hu3⟩; have HK3 := Aside0.mk hk3; have HD3 := Aside0.mk (doc_keep HKd.out HDd.out hu3); have HU3 := Aside0.mk (but_l (mb := mb) hu3); have q1 := act_keep hu3 HZG.out v1; clear hk3 hu3) | (go_at_call 27; refine (CD.out _ HDd.out).mono ?_; rintro e w4 ⟨rfl, hd4, hu4⟩; have HK4 := Aside0.mk (book_keep HKd.out HDd.out hu4); have HD4 := Aside0.mk hd4; have HU4 := Aside0.mk (but_r (g := g) hu4); have q1 := act_keep hu4 HZM.out v1; clear hd4 hu4))
  all_goals (go_wp2_with fail)
  all_goals go_ret
  all_goals exact ⟨by first | rfl | simp, HKF.out, HDF.out, (ButS.of (below_drew HB0.out)).trans HUF.out⟩
set_option maxHeartbeats 4000000 in
theorem do_none (a : ActR) (hb g mb : Nat) (M : List (Int × Ses)) (w : World) (hK : BookAt w hb g M) (hD : DocAt w mb M) (hG : GoodM M) (hn : i64 a.n) (h1 : a.k ≠ 1) (h2 : a.k ≠ 2) (h3 : a.k ≠ 3) (h4 : a.k ≠ 4) (h5 : a.k ≠ 5) :
    Calls Try.prog 7 #[encA a, .pointer (some ⟨hb, 0, none⟩), .pointer (some ⟨mb, 0, none⟩)] w (DoB w hb g mb (doM M a)) := by
  have hlen : M.length ≤ 1000 := by have := good_len hG; omega
  have HB0 := Aside0.mk ((Below.refl w.heap.size w).alloc (Nat.le_refl _) (.cells #[.int .i64 a.k, .int .i64 a.n, .string a.nm, .int .i64 a.e.f0, .int .i64 a.e.f1.f0, .int .i64 a.e.f1.f1, .int .i64 a.e.f1.f2, .int .i64 a.e.f1.f3, .int .u32 a.e.f1.f4.f0, .int .u32 a.e.f1.f4.f1, .int .i64 a.e.f1.f5] 39))
  have HN0 := Aside0.mk (blk_new w (.cells #[.int .i64 a.k, .int .i64 a.n, .string a.nm, .int .i64 a.e.f0, .int .i64 a.e.f1.f0, .int .i64 a.e.f1.f1, .int .i64 a.e.f1.f2, .int .i64 a.e.f1.f3, .int .u32 a.e.f1.f4.f0, .int .u32 a.e.f1.f4.f1, .int .i64 a.e.f1.f5] 39))
  have HZG := Aside0.mk (show w.heap.size ≠ g from by have := hK.gt.1; omega)
  have HZM := Aside0.mk (show w.heap.size ≠ mb from by have := hD.lt; omega)
  have hut := Try.underlying39
  have u0 : (w.alloc (.cells #[.int .i64 a.k, .int .i64 a.n, .string a.nm, .int .i64 a.e.f0, .int .i64 a.e.f1.f0, .int .i64 a.e.f1.f1, .int .i64 a.e.f1.f2, .int .i64 a.e.f1.f3, .int .u32 a.e.f1.f4.f0, .int .u32 a.e.f1.f4.f1, .int .i64 a.e.f1.f5] 39)).cell? ⟨w.heap.size, 0, none⟩ = some (.int .i64 a.k) := blk_cell HN0.out 0
  have u1 : (w.alloc (.cells #[.int .i64 a.k, .int .i64 a.n, .string a.nm, .int .i64 a.e.f0, .int .i64 a.e.f1.f0, .int .i64 a.e.f1.f1, .int .i64 a.e.f1.f2, .int .i64 a.e.f1.f3, .int .u32 a.e.f1.f4.f0, .int .u32 a.e.f1.f4.f1, .int .i64 a.e.f1.f5] 39)).cell? ⟨w.heap.size, 1, none⟩ = some (.int .i64 a.n) := blk_cell HN0.out 1
  have u2 : (w.alloc (.cells #[.int .i64 a.k, .int .i64 a.n, .string a.nm, .int .i64 a.e.f0, .int .i64 a.e.f1.f0, .int .i64 a.e.f1.f1, .int .i64 a.e.f1.f2, .int .i64 a.e.f1.f3, .int .u32 a.e.f1.f4.f0, .int .u32 a.e.f1.f4.f1, .int .i64 a.e.f1.f5] 39)).cell? ⟨w.heap.size, 2, none⟩ = some (.string a.nm) := blk_cell HN0.out 2
  have u3 : (w.alloc (.cells #[.int .i64 a.k, .int .i64 a.n, .string a.nm, .int .i64 a.e.f0, .int .i64 a.e.f1.f0, .int .i64 a.e.f1.f1, .int .i64 a.e.f1.f2, .int .i64 a.e.f1.f3, .int .u32 a.e.f1.f4.f0, .int .u32 a.e.f1.f4.f1, .int .i64 a.e.f1.f5] 39)).cell? ⟨w.heap.size, 3, none⟩ = some (.int .i64 a.e.f0) := blk_cell HN0.out 3
  have u4 : (w.alloc (.cells #[.int .i64 a.k, .int .i64 a.n, .string a.nm, .int .i64 a.e.f0, .int .i64 a.e.f1.f0, .int .i64 a.e.f1.f1, .int .i64 a.e.f1.f2, .int .i64 a.e.f1.f3, .int .u32 a.e.f1.f4.f0, .int .u32 a.e.f1.f4.f1, .int .i64 a.e.f1.f5] 39)).cell? ⟨w.heap.size, 4, none⟩ = some (.int .i64 a.e.f1.f0) := blk_cell HN0.out 4
  have u5 : (w.alloc (.cells #[.int .i64 a.k, .int .i64 a.n, .string a.nm, .int .i64 a.e.f0, .int .i64 a.e.f1.f0, .int .i64 a.e.f1.f1, .int .i64 a.e.f1.f2, .int .i64 a.e.f1.f3, .int .u32 a.e.f1.f4.f0, .int .u32 a.e.f1.f4.f1, .int .i64 a.e.f1.f5] 39)).cell? ⟨w.heap.size, 5, none⟩ = some (.int .i64 a.e.f1.f1) := blk_cell HN0.out 5
  have u6 : (w.alloc (.cells #[.int .i64 a.k, .int .i64 a.n, .string a.nm, .int .i64 a.e.f0, .int .i64 a.e.f1.f0, .int .i64 a.e.f1.f1, .int .i64 a.e.f1.f2, .int .i64 a.e.f1.f3, .int .u32 a.e.f1.f4.f0, .int .u32 a.e.f1.f4.f1, .int .i64 a.e.f1.f5] 39)).cell? ⟨w.heap.size, 6, none⟩ = some (.int .i64 a.e.f1.f2) := blk_cell HN0.out 6
  have u7 : (w.alloc (.cells #[.int .i64 a.k, .int .i64 a.n, .string a.nm, .int .i64 a.e.f0, .int .i64 a.e.f1.f0, .int .i64 a.e.f1.f1, .int .i64 a.e.f1.f2, .int .i64 a.e.f1.f3, .int .u32 a.e.f1.f4.f0, .int .u32 a.e.f1.f4.f1, .int .i64 a.e.f1.f5] 39)).cell? ⟨w.heap.size, 7, none⟩ = some (.int .i64 a.e.f1.f3) := blk_cell HN0.out 7
  have u8 : (w.alloc (.cells #[.int .i64 a.k, .int .i64 a.n, .string a.nm, .int .i64 a.e.f0, .int .i64 a.e.f1.f0, .int .i64 a.e.f1.f1, .int .i64 a.e.f1.f2, .int .i64 a.e.f1.f3, .int .u32 a.e.f1.f4.f0, .int .u32 a.e.f1.f4.f1, .int .i64 a.e.f1.f5] 39)).cell? ⟨w.heap.size, 8, none⟩ = some (.int .u32 a.e.f1.f4.f0) := blk_cell HN0.out 8
  have u9 : (w.alloc (.cells #[.int .i64 a.k, .int .i64 a.n, .string a.nm, .int .i64 a.e.f0, .int .i64 a.e.f1.f0, .int .i64 a.e.f1.f1, .int .i64 a.e.f1.f2, .int .i64 a.e.f1.f3, .int .u32 a.e.f1.f4.f0, .int .u32 a.e.f1.f4.f1, .int .i64 a.e.f1.f5] 39)).cell? ⟨w.heap.size, 9, none⟩ = some (.int .u32 a.e.f1.f4.f1) := blk_cell HN0.out 9
  have u10 : (w.alloc (.cells #[.int .i64 a.k, .int .i64 a.n, .string a.nm, .int .i64 a.e.f0, .int .i64 a.e.f1.f0, .int .i64 a.e.f1.f1, .int .i64 a.e.f1.f2, .int .i64 a.e.f1.f3, .int .u32 a.e.f1.f4.f0, .int .u32 a.e.f1.f4.f1, .int .i64 a.e.f1.f5] 39)).cell? ⟨w.heap.size, 10, none⟩ = some (.int .i64 a.e.f1.f5) := blk_cell HN0.out 10
  have HK0 := Aside0.mk (hK.below HB0.out)
  have HD0 := Aside0.mk (hD.below HB0.out)
  have hdm : doM M a = M := by unfold doM; rw [if_neg h1, if_neg h2, if_neg h3, if_neg h4, if_neg h5]
  rw [hdm]
  unfold encA
  have b1 : (a.k == 1) = false := by simpa using h1
  have b2 : (a.k == 2) = false := by simpa using h2
  have b3 : (a.k == 3) = false := by simpa using h3
  have b4 : (a.k == 4) = false := by simpa using h4
  have b5 : (a.k == 5) = false := by simpa using h5
  clear hK hD hG hn hlen hdm
  go_enter Try.func7, Try.ntmps7
  go_wp2_with fail
  go_ret
  exact ⟨by first | rfl | simp, HK0.out, HD0.out, ButS.of HB0.out⟩
theorem do_any (a : ActR) (hb g mb : Nat) (M : List (Int × Ses)) (w : World) (hK : BookAt w hb g M) (hD : DocAt w mb M) (hG : GoodM M) (hn : i64 a.n) :
    Calls Try.prog 7 #[encA a, .pointer (some ⟨hb, 0, none⟩), .pointer (some ⟨mb, 0, none⟩)] w (DoB w hb g mb (doM M a)) := by
  by_cases h1 : a.k = 1
  · exact do_one a hb g mb M w hK hD hG hn h1
  by_cases h2 : a.k = 2
  · exact do_two a hb g mb M w hK hD hG hn h2
  by_cases h3 : a.k = 3
  · exact do_three a hb g mb M w hK hD hG hn h3
  by_cases h4 : a.k = 4
  · exact do_four a hb g mb M w hK hD hG hn h4
  by_cases h5 : a.k = 5
  · exact do_five a hb g mb M w hK hD hG hn h5
  exact do_none a hb g mb M w hK hD hG hn h1 h2 h3 h4 h5
end Go.Proofs.Ytnbojemjaipnlaa.H
