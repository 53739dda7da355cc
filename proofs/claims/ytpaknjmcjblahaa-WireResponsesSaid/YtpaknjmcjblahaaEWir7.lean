/- Wir7. -/
import Derived.Test.YtpaknjmcjblahaaEWir6
namespace Go.Proofs.Ytpaknjmcjblahaa.H
open Go.RowKit Go.Proofs.Ytpaknjmcjblahaa.P Go.Proofs.YtpaknjmcjblahaaW.PrintWords Go.Proofs.YtpaknjmcjblahaaW.PrintLast Go.Proofs.YtpaknjmcjblahaaW.PrintMore
attribute [local go_sem high] eqA27 eqA29 eqA31 eqA34
set_option linter.unusedVariables false
set_option linter.unusedSimpArgs false
set_option maxRecDepth 20000
theorem lit_C (l : List Int) (hl : l.length ≤ 1000) (W : World) : Kd.C (Kd.int .i64) (W.alloc (.cells (l.map (Value.int .i64)).toArray 3)) (some ⟨W.heap.size, 0, none⟩) l.length l := by
  refine Kd.C_of_reads (h1 := fun _ => rfl) (d := 0) ⟨rfl, by omega, fun hn => ⟨_, rfl, fun j hj => ?_⟩⟩
  have h := blk_cell (blk_new W (.cells (l.map (Value.int .i64)).toArray 3)) j
  have e : (⟨W.heap.size, 0, none⟩ : Addr).add j = ⟨W.heap.size, j, none⟩ := by simp only [Addr.add]; split <;> simp_all
  rw [e, h]
  rw [List.getElem?_toArray, List.getElem?_map, List.getElem?_eq_getElem hj, List.getD_eq_getElem?_getD, List.getElem?_eq_getElem hj]; rfl
def RqAt (W : World) (b : Nat) (r : Rq) : Prop := W.heap[b]? = some (.cells #[.int .i64 r.k, .int .i64 r.s, .string r.nm, .int .i64 r.ek, .int .i64 r.ru.f0, .int .i64 r.ru.f1, .int .i64 r.ru.f2, .int .i64 r.ru.f3, .int .u32 r.ru.f4.f0, .int .u32 r.ru.f4.f1, .int .i64 r.ru.f5, .int .i64 r.qk, .int .i64 r.qa, .int .i64 r.qb, .int .i64 r.qw, .int .u32 r.qf, .int .u32 r.qt, .string r.qo] 36 (0, 0))
theorem RqAt.cells {W : World} {b : Nat} {r : Rq} (h : RqAt W b r) : W.cell? ⟨b, 0, none⟩ = some (.int .i64 r.k) ∧ W.cell? ⟨b, 1, none⟩ = some (.int .i64 r.s) ∧ W.cell? ⟨b, 2, none⟩ = some (.string r.nm) ∧ W.cell? ⟨b, 3, none⟩ = some (.int .i64 r.ek) ∧ W.cell? ⟨b, 4, none⟩ = some (.int .i64 r.ru.f0) ∧ W.cell? ⟨b, 5, none⟩ = some (.int .i64 r.ru.f1) ∧ W.cell? ⟨b, 6, none⟩ = some (.int .i64 r.ru.f2) ∧ W.cell? ⟨b, 7, none⟩ = some (.int .i64 r.ru.f3) ∧ W.cell? ⟨b, 8, none⟩ = some (.int .u32 r.ru.f4.f0) ∧ W.cell? ⟨b, 9, none⟩ = some (.int .u32 r.ru.f4.f1) ∧ W.cell? ⟨b, 10, none⟩ = some (.int .i64 r.ru.f5) ∧ W.cell? ⟨b, 11, none⟩ = some (.int .i64 r.qk) ∧ W.cell? ⟨b, 12, none⟩ = some (.int .i64 r.qa) ∧ W.cell? ⟨b, 13, none⟩ = some (.int .i64 r.qb) ∧ W.cell? ⟨b, 14, none⟩ = some (.int .i64 r.qw) ∧ W.cell? ⟨b, 15, none⟩ = some (.int .u32 r.qf) ∧ W.cell? ⟨b, 16, none⟩ = some (.int .u32 r.qt) ∧ W.cell? ⟨b, 17, none⟩ = some (.string r.qo) := by
  unfold RqAt at h
  exact ⟨blk_cell h 0, blk_cell h 1, blk_cell h 2, blk_cell h 3, blk_cell h 4, blk_cell h 5, blk_cell h 6, blk_cell h 7, blk_cell h 8, blk_cell h 9, blk_cell h 10, blk_cell h 11, blk_cell h 12, blk_cell h 13, blk_cell h 14, blk_cell h 15, blk_cell h 16, blk_cell h 17⟩
theorem RqAt.below {W W' : World} {b : Nat} {r : Rq} (h : RqAt W b r) (hb : Below W.heap.size W W') : RqAt W' b r := blk_below h hb
def okRq (r : Rq) : Prop := okRu r.ru ∧ (0 ≤ r.qf ∧ r.qf ≤ 4294967295) ∧ 0 ≤ r.qt ∧ r.qt ≤ 4294967295
theorem partK_4 (k : Int) : partK k = 0 ∨ partK k = 1 ∨ partK k = 2 ∨ partK k = 3 := by
  unfold partK
  split
  · exact .inr (.inl rfl)
  · split
    · exact .inr (.inr (.inl rfl))
    · split
      · exact .inr (.inr (.inr rfl))
      · exact .inl rfl
theorem r7HX0 (r : Rq) (hu : okRq r) (w : World) : Aside0 (RqAt (w.alloc (.cells #[.int .i64 r.k, .int .i64 r.s, .string r.nm, .int .i64 r.ek, .int .i64 r.ru.f0, .int .i64 r.ru.f1, .int .i64 r.ru.f2, .int .i64 r.ru.f3, .int .u32 r.ru.f4.f0, .int .u32 r.ru.f4.f1, .int .i64 r.ru.f5, .int .i64 r.qk, .int .i64 r.qa, .int .i64 r.qb, .int .i64 r.qw, .int .u32 r.qf, .int .u32 r.qt, .string r.qo] 36)) w.heap.size r) := Aside0.mk (blk_new w _)
theorem r7HB0 (r : Rq) (hu : okRq r) (w : World) : Aside0 (Below w.heap.size w (w.alloc (.cells #[.int .i64 r.k, .int .i64 r.s, .string r.nm, .int .i64 r.ek, .int .i64 r.ru.f0, .int .i64 r.ru.f1, .int .i64 r.ru.f2, .int .i64 r.ru.f3, .int .u32 r.ru.f4.f0, .int .u32 r.ru.f4.f1, .int .i64 r.ru.f5, .int .i64 r.qk, .int .i64 r.qa, .int .i64 r.qb, .int .i64 r.qw, .int .u32 r.qf, .int .u32 r.qt, .string r.qo] 36))) := Aside0.mk ((Below.refl w.heap.size w).alloc (Nat.le_refl _) (.cells #[.int .i64 r.k, .int .i64 r.s, .string r.nm, .int .i64 r.ek, .int .i64 r.ru.f0, .int .i64 r.ru.f1, .int .i64 r.ru.f2, .int .i64 r.ru.f3, .int .u32 r.ru.f4.f0, .int .u32 r.ru.f4.f1, .int .i64 r.ru.f5, .int .i64 r.qk, .int .i64 r.qa, .int .i64 r.qb, .int .i64 r.qw, .int .u32 r.qf, .int .u32 r.qt, .string r.qo] 36))
theorem r7C1 (r : Rq) (hu : okRq r) (w : World) : Aside0 (∀ W : World, Calls Try.prog 39 #[.int .i64 9, .slice (some ⟨W.heap.size, 0, none⟩) 1 1] (W.alloc (.cells #[.int .i64 r.k] 3)) (fun e w' => e = .returned (.bool (allIn 9 [r.k])) ∧ Below (W.alloc (.cells #[.int .i64 r.k] 3)).heap.size (W.alloc (.cells #[.int .i64 r.k] 3)) w')) := Aside0.mk (fun W => within_any 9 (some ⟨W.heap.size, 0, none⟩) 1 [r.k] (W.alloc (.cells #[.int .i64 r.k] 3)) (lit_C [r.k] (by simp) W))
theorem r7C2 (r : Rq) (hu : okRq r) (w : World) : Aside0 (∀ W : World, Calls Try.prog 39 #[.int .i64 255, .slice (some ⟨W.heap.size, 0, none⟩) 6 6] (W.alloc (.cells #[.int .i64 r.s, .int .i64 r.ek, .int .i64 r.qk, .int .i64 r.qa, .int .i64 r.qb, .int .i64 r.qw] 3)) (fun e w' => e = .returned (.bool (allIn 255 [r.s, r.ek, r.qk, r.qa, r.qb, r.qw])) ∧ Below (W.alloc (.cells #[.int .i64 r.s, .int .i64 r.ek, .int .i64 r.qk, .int .i64 r.qa, .int .i64 r.qb, .int .i64 r.qw] 3)).heap.size (W.alloc (.cells #[.int .i64 r.s, .int .i64 r.ek, .int .i64 r.qk, .int .i64 r.qa, .int .i64 r.qb, .int .i64 r.qw] 3)) w')) := Aside0.mk (fun W => within_any 255 (some ⟨W.heap.size, 0, none⟩) 6 [r.s, r.ek, r.qk, r.qa, r.qb, r.qw] (W.alloc (.cells #[.int .i64 r.s, .int .i64 r.ek, .int .i64 r.qk, .int .i64 r.qa, .int .i64 r.qb, .int .i64 r.qw] 3)) (lit_C [r.s, r.ek, r.qk, r.qa, r.qb, r.qw] (by simp) W))
theorem r7C3 (r : Rq) (hu : okRq r) (w : World) : Aside0 (∀ (A : Option Addr) (c : Nat) (W : World), Kd.C (Kd.int .i64) W A 7 (numsR r.ru) → 7 ≤ c → Calls Try.prog 39 #[.int .i64 4294967295, .slice A 7 c] W (fun e w' => e = .returned (.bool (allIn 4294967295 (numsR r.ru))) ∧ Below W.heap.size W w')) := Aside0.mk (fun A c W hC hc => within_any 4294967295 A c (numsR r.ru) W hC)
theorem r7CN (r : Rq) (hu : okRq r) (w : World) : Aside0 (∀ W : World, Calls Try.prog 25 #[.agg #[.int .i64 r.ru.f0, .int .i64 r.ru.f1, .int .i64 r.ru.f2, .int .i64 r.ru.f3, .int .u32 r.ru.f4.f0, .int .u32 r.ru.f4.f1, .int .i64 r.ru.f5]] W (fun e w' => (∃ A c, e = .returned (.slice A 7 c) ∧ 7 ≤ c ∧ Kd.C (Kd.int .i64) w' A 7 (numsR r.ru)) ∧ Below W.heap.size W w')) := Aside0.mk (fun W => nums_any r.ru hu.1 W)
set_option maxHeartbeats 4000000 in
theorem right_any_1 (r : Rq) (hu : okRq r) (w : World) (hb1 : allIn 9 [r.k] = false) :
    Calls Try.prog 14 #[.agg #[.int .i64 r.k, .int .i64 r.s, .string r.nm, .int .i64 r.ek, .int .i64 r.ru.f0, .int .i64 r.ru.f1, .int .i64 r.ru.f2, .int .i64 r.ru.f3, .int .u32 r.ru.f4.f0, .int .u32 r.ru.f4.f1, .int .i64 r.ru.f5, .int .i64 r.qk, .int .i64 r.qa, .int .i64 r.qb, .int .i64 r.qw, .int .u32 r.qf, .int .u32 r.qt, .string r.qo]] w fun e w' => e = .returned (.bool (rightQ r)) ∧ Below w.heap.size w w' := by
  have HX0 := r7HX0 r hu w
  have HB0 := r7HB0 r hu w
  have C1 := r7C1 r hu w
  have C2 := r7C2 r hu w
  have C3 := r7C3 r hu w
  have CN := r7CN r hu w
  have CP := Aside0.mk (fun W => counts_any r.k W)
  clear hu
  have HQ : rightQ r = false := by unfold rightQ; simp only [hb1, Bool.not_false, Bool.not_true, Bool.and_true, Bool.true_and, Bool.and_false, Bool.false_and, Bool.or_true, Bool.true_or, Bool.false_or, Bool.or_false] <;> rfl
  rw [HQ]
  clear HQ
  rw [hb1] at C1
  go_enter Try.func14, Try.ntmps14
  try dsimp only
  repeat ((fail_if_success (show Code.wp _ (Code.seq (Code.region 1 _ _) _) _ _ _)); (first | go_values | go_skip | go_guarded | go_step | go_upon | go_back))
  generalize (w.alloc (.cells #[.int .i64 r.k, .int .i64 r.s, .string r.nm, .int .i64 r.ek, .int .i64 r.ru.f0, .int .i64 r.ru.f1, .int .i64 r.ru.f2, .int .i64 r.ru.f3, .int .u32 r.ru.f4.f0, .int .u32 r.ru.f4.f1, .int .i64 r.ru.f5, .int .i64 r.qk, .int .i64 r.qa, .int .i64 r.qb, .int .i64 r.qw, .int .u32 r.qf, .int .u32 r.qt, .string r.qo] 36)) = W0 at *
  obtain ⟨y0, y1, y2, y3, y4, y5, y6, y7, y8, y9, y10, y11, y12, y13, y14, y15, y16, y17⟩ := HX0.out.cells
  go_wp2_with fail
  refine (C1.out W0).mono ?_
  rintro e W1 ⟨rfl, hb⟩
  have hb2 := ((Below.refl W0.heap.size W0).alloc (Nat.le_refl _) (.cells #[.int .i64 r.k] 3)).trans (hb.mono (by simp))
  have HX1 := Aside0.mk (HX0.out.below hb2)
  have HB1 := Aside0.mk (HB0.out.trans (hb2.mono HB0.out.size))
  clear hb hb2 HX0 HB0 y0 y1 y2 y3 y4 y5 y6 y7 y8 y9 y10 y11 y12 y13 y14 y15 y16 y17
  obtain ⟨y0, y1, y2, y3, y4, y5, y6, y7, y8, y9, y10, y11, y12, y13, y14, y15, y16, y17⟩ := HX1.out.cells
  go_wp2_with fail
  go_ret
  exact ⟨rfl, HB1.out⟩
set_option maxHeartbeats 4000000 in
theorem right_any_2 (r : Rq) (hu : okRq r) (w : World) (hb1 : allIn 9 [r.k] = true) (hb2 : allIn 255 [r.s, r.ek, r.qk, r.qa, r.qb, r.qw] = false) :
    Calls Try.prog 14 #[.agg #[.int .i64 r.k, .int .i64 r.s, .string r.nm, .int .i64 r.ek, .int .i64 r.ru.f0, .int .i64 r.ru.f1, .int .i64 r.ru.f2, .int .i64 r.ru.f3, .int .u32 r.ru.f4.f0, .int .u32 r.ru.f4.f1, .int .i64 r.ru.f5, .int .i64 r.qk, .int .i64 r.qa, .int .i64 r.qb, .int .i64 r.qw, .int .u32 r.qf, .int .u32 r.qt, .string r.qo]] w fun e w' => e = .returned (.bool (rightQ r)) ∧ Below w.heap.size w w' := by
  have HX0 := r7HX0 r hu w
  have HB0 := r7HB0 r hu w
  have C1 := r7C1 r hu w
  have C2 := r7C2 r hu w
  have C3 := r7C3 r hu w
  have CN := r7CN r hu w
  have CP := Aside0.mk (fun W => counts_any r.k W)
  clear hu
  have HQ : rightQ r = false := by unfold rightQ; simp only [hb1, hb2, Bool.not_false, Bool.not_true, Bool.and_true, Bool.true_and, Bool.and_false, Bool.false_and, Bool.or_true, Bool.true_or, Bool.false_or, Bool.or_false] <;> rfl
  rw [HQ]
  clear HQ
  rw [hb1] at C1
  rw [hb2] at C2
  go_enter Try.func14, Try.ntmps14
  try dsimp only
  repeat ((fail_if_success (show Code.wp _ (Code.seq (Code.region 1 _ _) _) _ _ _)); (first | go_values | go_skip | go_guarded | go_step | go_upon | go_back))
  generalize (w.alloc (.cells #[.int .i64 r.k, .int .i64 r.s, .string r.nm, .int .i64 r.ek, .int .i64 r.ru.f0, .int .i64 r.ru.f1, .int .i64 r.ru.f2, .int .i64 r.ru.f3, .int .u32 r.ru.f4.f0, .int .u32 r.ru.f4.f1, .int .i64 r.ru.f5, .int .i64 r.qk, .int .i64 r.qa, .int .i64 r.qb, .int .i64 r.qw, .int .u32 r.qf, .int .u32 r.qt, .string r.qo] 36)) = W0 at *
  obtain ⟨y0, y1, y2, y3, y4, y5, y6, y7, y8, y9, y10, y11, y12, y13, y14, y15, y16, y17⟩ := HX0.out.cells
  go_wp2_with fail
  refine (C1.out W0).mono ?_
  rintro e W1 ⟨rfl, hb⟩
  have hb2 := ((Below.refl W0.heap.size W0).alloc (Nat.le_refl _) (.cells #[.int .i64 r.k] 3)).trans (hb.mono (by simp))
  have HX1 := Aside0.mk (HX0.out.below hb2)
  have HB1 := Aside0.mk (HB0.out.trans (hb2.mono HB0.out.size))
  clear hb hb2 HX0 HB0 y0 y1 y2 y3 y4 y5 y6 y7 y8 y9 y10 y11 y12 y13 y14 y15 y16 y17
  obtain ⟨y0, y1, y2, y3, y4, y5, y6, y7, y8, y9, y10, y11, y12, y13, y14, y15, y16, y17⟩ := HX1.out.cells
  go_wp2_with fail
  refine (C2.out W1).mono ?_
  rintro e W2 ⟨rfl, hb⟩
  have hb2 := ((Below.refl W1.heap.size W1).alloc (Nat.le_refl _) (.cells #[.int .i64 r.s, .int .i64 r.ek, .int .i64 r.qk, .int .i64 r.qa, .int .i64 r.qb, .int .i64 r.qw] 3)).trans (hb.mono (by simp))
  have HX2 := Aside0.mk (HX1.out.below hb2)
  have HB2 := Aside0.mk (HB1.out.trans (hb2.mono HB1.out.size))
  clear hb hb2 HX1 HB1 y0 y1 y2 y3 y4 y5 y6 y7 y8 y9 y10 y11 y12 y13 y14 y15 y16 y17
  obtain ⟨y0, y1, y2, y3, y4, y5, y6, y7, y8, y9, y10, y11, y12, y13, y14, y15, y16, y17⟩ := HX2.out.cells
  go_wp2_with fail
  go_ret
  exact ⟨rfl, HB2.out⟩
set_option maxHeartbeats 4000000 in
theorem right_any_3 (r : Rq) (hu : okRq r) (w : World) (hb1 : allIn 9 [r.k] = true) (hb2 : allIn 255 [r.s, r.ek, r.qk, r.qa, r.qb, r.qw] = true) (hb3 : allIn 4294967295 (numsR r.ru) = false) :
    Calls Try.prog 14 #[.agg #[.int .i64 r.k, .int .i64 r.s, .string r.nm, .int .i64 r.ek, .int .i64 r.ru.f0, .int .i64 r.ru.f1, .int .i64 r.ru.f2, .int .i64 r.ru.f3, .int .u32 r.ru.f4.f0, .int .u32 r.ru.f4.f1, .int .i64 r.ru.f5, .int .i64 r.qk, .int .i64 r.qa, .int .i64 r.qb, .int .i64 r.qw, .int .u32 r.qf, .int .u32 r.qt, .string r.qo]] w fun e w' => e = .returned (.bool (rightQ r)) ∧ Below w.heap.size w w' := by
  have HX0 := r7HX0 r hu w
  have HB0 := r7HB0 r hu w
  have C1 := r7C1 r hu w
  have C2 := r7C2 r hu w
  have C3 := r7C3 r hu w
  have CN := r7CN r hu w
  have CP := Aside0.mk (fun W => counts_any r.k W)
  clear hu
  have HQ : rightQ r = false := by unfold rightQ; simp only [hb1, hb2, hb3, Bool.not_false, Bool.not_true, Bool.and_true, Bool.true_and, Bool.and_false, Bool.false_and, Bool.or_true, Bool.true_or, Bool.false_or, Bool.or_false] <;> rfl
  rw [HQ]
  clear HQ
  rw [hb1] at C1
  rw [hb2] at C2
  rw [hb3] at C3
  go_enter Try.func14, Try.ntmps14
  try dsimp only
  repeat ((fail_if_success (show Code.wp _ (Code.seq (Code.region 1 _ _) _) _ _ _)); (first | go_values | go_skip | go_guarded | go_step | go_upon | go_back))
  generalize (w.alloc (.cells #[.int .i64 r.k, .int .i64 r.s, .string r.nm, .int .i64 r.ek, .int .i64 r.ru.f0, .int .i64 r.ru.f1, .int .i64 r.ru.f2, .int .i64 r.ru.f3, .int .u32 r.ru.f4.f0, .int .u32 r.ru.f4.f1, .int .i64 r.ru.f5, .int .i64 r.qk, .int .i64 r.qa, .int .i64 r.qb, .int .i64 r.qw, .int .u32 r.qf, .int .u32 r.qt, .string r.qo] 36)) = W0 at *
  obtain ⟨y0, y1, y2, y3, y4, y5, y6, y7, y8, y9, y10, y11, y12, y13, y14, y15, y16, y17⟩ := HX0.out.cells
  go_wp2_with fail
  refine (C1.out W0).mono ?_
  rintro e W1 ⟨rfl, hb⟩
  have hb2 := ((Below.refl W0.heap.size W0).alloc (Nat.le_refl _) (.cells #[.int .i64 r.k] 3)).trans (hb.mono (by simp))
  have HX1 := Aside0.mk (HX0.out.below hb2)
  have HB1 := Aside0.mk (HB0.out.trans (hb2.mono HB0.out.size))
  clear hb hb2 HX0 HB0 y0 y1 y2 y3 y4 y5 y6 y7 y8 y9 y10 y11 y12 y13 y14 y15 y16 y17
  obtain ⟨y0, y1, y2, y3, y4, y5, y6, y7, y8, y9, y10, y11, y12, y13, y14, y15, y16, y17⟩ := HX1.out.cells
  go_wp2_with fail
  refine (C2.out W1).mono ?_
  rintro e W2 ⟨rfl, hb⟩
  have hb2 := ((Below.refl W1.heap.size W1).alloc (Nat.le_refl _) (.cells #[.int .i64 r.s, .int .i64 r.ek, .int .i64 r.qk, .int .i64 r.qa, .int .i64 r.qb, .int .i64 r.qw] 3)).trans (hb.mono (by simp))
  have HX2 := Aside0.mk (HX1.out.below hb2)
  have HB2 := Aside0.mk (HB1.out.trans (hb2.mono HB1.out.size))
  clear hb hb2 HX1 HB1 y0 y1 y2 y3 y4 y5 y6 y7 y8 y9 y10 y11 y12 y13 y14 y15 y16 y17
  obtain ⟨y0, y1, y2, y3, y4, y5, y6, y7, y8, y9, y10, y11, y12, y13, y14, y15, y16, y17⟩ := HX2.out.cells
  go_wp2_with fail
  refine (CN.out W2).mono ?_
  rintro e W3 ⟨⟨An, cn, rfl, hcn, hCn⟩, hb⟩
  have hb2 := hb
  have HX3 := Aside0.mk (HX2.out.below hb2)
  have HB3 := Aside0.mk (HB2.out.trans (hb2.mono HB2.out.size))
  clear hb hb2 HX2 HB2 y0 y1 y2 y3 y4 y5 y6 y7 y8 y9 y10 y11 y12 y13 y14 y15 y16 y17
  obtain ⟨y0, y1, y2, y3, y4, y5, y6, y7, y8, y9, y10, y11, y12, y13, y14, y15, y16, y17⟩ := HX3.out.cells
  go_wp2_with fail
  refine (C3.out An cn W3 hCn hcn).mono ?_
  rintro e W4 ⟨rfl, hb⟩
  have hb2 := hb
  have HX4 := Aside0.mk (HX3.out.below hb2)
  have HB4 := Aside0.mk (HB3.out.trans (hb2.mono HB3.out.size))
  clear hb hb2 HX3 HB3 y0 y1 y2 y3 y4 y5 y6 y7 y8 y9 y10 y11 y12 y13 y14 y15 y16 y17
  obtain ⟨y0, y1, y2, y3, y4, y5, y6, y7, y8, y9, y10, y11, y12, y13, y14, y15, y16, y17⟩ := HX4.out.cells
  clear hcn hCn
  go_wp2_with fail
  go_ret
  exact ⟨rfl, HB4.out⟩
set_option maxHeartbeats 4000000 in
theorem right_any_4 (r : Rq) (hu : okRq r) (w : World) (hb1 : allIn 9 [r.k] = true) (hb2 : allIn 255 [r.s, r.ek, r.qk, r.qa, r.qb, r.qw] = true) (hb3 : allIn 4294967295 (numsR r.ru) = true) (hd4 : decide ((40 : Int) < (r.nm.size : Int)) = false) (hd5 : decide ((40 : Int) < (r.qo.size : Int)) = false) (hkz : (r.k == 0) = false) (hp : partK r.k = 0) (hnE : emptyS r.nm = false) :
    Calls Try.prog 14 #[.agg #[.int .i64 r.k, .int .i64 r.s, .string r.nm, .int .i64 r.ek, .int .i64 r.ru.f0, .int .i64 r.ru.f1, .int .i64 r.ru.f2, .int .i64 r.ru.f3, .int .u32 r.ru.f4.f0, .int .u32 r.ru.f4.f1, .int .i64 r.ru.f5, .int .i64 r.qk, .int .i64 r.qa, .int .i64 r.qb, .int .i64 r.qw, .int .u32 r.qf, .int .u32 r.qt, .string r.qo]] w fun e w' => e = .returned (.bool (rightQ r)) ∧ Below w.heap.size w w' := by
  have HX0 := r7HX0 r hu w
  have HB0 := r7HB0 r hu w
  have C1 := r7C1 r hu w
  have C2 := r7C2 r hu w
  have C3 := r7C3 r hu w
  have CN := r7CN r hu w
  have CP := Aside0.mk (fun W => counts_any r.k W)
  clear hu
  have HQ : rightQ r = false := by unfold rightQ; simp only [hb1, hb2, hb3, hd4, hd5, hkz, hp, hnE, Bool.not_false, Bool.not_true, Bool.and_true, Bool.true_and, Bool.and_false, Bool.false_and, Bool.or_true, Bool.true_or, Bool.false_or, Bool.or_false] <;> rfl
  rw [HQ]
  clear HQ
  rw [hb1] at C1
  rw [hb2] at C2
  rw [hb3] at C3
  rw [hp] at CP
  have hd4' : decide (40 < r.nm.size) = false := by rw [← hd4]; exact decide_eq_decide.2 (by omega)
  have hd5' : decide (40 < r.qo.size) = false := by rw [← hd5]; exact decide_eq_decide.2 (by omega)
  have hnE1 : r.nm.toList.isEmpty = false := hnE
  have hnE2 : ¬ r.nm.toList = [] := fun h => by rw [h] at hnE1; cases hnE1
  go_enter Try.func14, Try.ntmps14
  try dsimp only
  repeat ((fail_if_success (show Code.wp _ (Code.seq (Code.region 1 _ _) _) _ _ _)); (first | go_values | go_skip | go_guarded | go_step | go_upon | go_back))
  generalize (w.alloc (.cells #[.int .i64 r.k, .int .i64 r.s, .string r.nm, .int .i64 r.ek, .int .i64 r.ru.f0, .int .i64 r.ru.f1, .int .i64 r.ru.f2, .int .i64 r.ru.f3, .int .u32 r.ru.f4.f0, .int .u32 r.ru.f4.f1, .int .i64 r.ru.f5, .int .i64 r.qk, .int .i64 r.qa, .int .i64 r.qb, .int .i64 r.qw, .int .u32 r.qf, .int .u32 r.qt, .string r.qo] 36)) = W0 at *
  obtain ⟨y0, y1, y2, y3, y4, y5, y6, y7, y8, y9, y10, y11, y12, y13, y14, y15, y16, y17⟩ := HX0.out.cells
  go_wp2_with fail
  refine (C1.out W0).mono ?_
  rintro e W1 ⟨rfl, hb⟩
  have hb2 := ((Below.refl W0.heap.size W0).alloc (Nat.le_refl _) (.cells #[.int .i64 r.k] 3)).trans (hb.mono (by simp))
  have HX1 := Aside0.mk (HX0.out.below hb2)
  have HB1 := Aside0.mk (HB0.out.trans (hb2.mono HB0.out.size))
  clear hb hb2 HX0 HB0 y0 y1 y2 y3 y4 y5 y6 y7 y8 y9 y10 y11 y12 y13 y14 y15 y16 y17
  obtain ⟨y0, y1, y2, y3, y4, y5, y6, y7, y8, y9, y10, y11, y12, y13, y14, y15, y16, y17⟩ := HX1.out.cells
  go_wp2_with fail
  refine (C2.out W1).mono ?_
  rintro e W2 ⟨rfl, hb⟩
  have hb2 := ((Below.refl W1.heap.size W1).alloc (Nat.le_refl _) (.cells #[.int .i64 r.s, .int .i64 r.ek, .int .i64 r.qk, .int .i64 r.qa, .int .i64 r.qb, .int .i64 r.qw] 3)).trans (hb.mono (by simp))
  have HX2 := Aside0.mk (HX1.out.below hb2)
  have HB2 := Aside0.mk (HB1.out.trans (hb2.mono HB1.out.size))
  clear hb hb2 HX1 HB1 y0 y1 y2 y3 y4 y5 y6 y7 y8 y9 y10 y11 y12 y13 y14 y15 y16 y17
  obtain ⟨y0, y1, y2, y3, y4, y5, y6, y7, y8, y9, y10, y11, y12, y13, y14, y15, y16, y17⟩ := HX2.out.cells
  go_wp2_with fail
  refine (CN.out W2).mono ?_
  rintro e W3 ⟨⟨An, cn, rfl, hcn, hCn⟩, hb⟩
  have hb2 := hb
  have HX3 := Aside0.mk (HX2.out.below hb2)
  have HB3 := Aside0.mk (HB2.out.trans (hb2.mono HB2.out.size))
  clear hb hb2 HX2 HB2 y0 y1 y2 y3 y4 y5 y6 y7 y8 y9 y10 y11 y12 y13 y14 y15 y16 y17
  obtain ⟨y0, y1, y2, y3, y4, y5, y6, y7, y8, y9, y10, y11, y12, y13, y14, y15, y16, y17⟩ := HX3.out.cells
  go_wp2_with fail
  refine (C3.out An cn W3 hCn hcn).mono ?_
  rintro e W4 ⟨rfl, hb⟩
  have hb2 := hb
  have HX4 := Aside0.mk (HX3.out.below hb2)
  have HB4 := Aside0.mk (HB3.out.trans (hb2.mono HB3.out.size))
  clear hb hb2 HX3 HB3 y0 y1 y2 y3 y4 y5 y6 y7 y8 y9 y10 y11 y12 y13 y14 y15 y16 y17
  obtain ⟨y0, y1, y2, y3, y4, y5, y6, y7, y8, y9, y10, y11, y12, y13, y14, y15, y16, y17⟩ := HX4.out.cells
  clear hcn hCn
  go_wp2_with fail
  refine (CP.out W4).mono ?_
  rintro e W5 ⟨rfl, hb⟩
  have hb2 := hb
  have HX5 := Aside0.mk (HX4.out.below hb2)
  have HB5 := Aside0.mk (HB4.out.trans (hb2.mono HB4.out.size))
  clear hb hb2 HX4 HB4 y0 y1 y2 y3 y4 y5 y6 y7 y8 y9 y10 y11 y12 y13 y14 y15 y16 y17
  obtain ⟨y0, y1, y2, y3, y4, y5, y6, y7, y8, y9, y10, y11, y12, y13, y14, y15, y16, y17⟩ := HX5.out.cells
  go_wp2_with fail
  go_ret
  exact ⟨rfl, HB5.out⟩
set_option maxHeartbeats 4000000 in
theorem right_any_5 (r : Rq) (hu : okRq r) (w : World) (hb1 : allIn 9 [r.k] = true) (hb2 : allIn 255 [r.s, r.ek, r.qk, r.qa, r.qb, r.qw] = true) (hb3 : allIn 4294967295 (numsR r.ru) = true) (hd4 : decide ((40 : Int) < (r.nm.size : Int)) = false) (hd5 : decide ((40 : Int) < (r.qo.size : Int)) = false) (hkz : (r.k == 0) = false) (hp : partK r.k = 0) (hnE : emptyS r.nm = true) (heZ : edZ r = false) :
    Calls Try.prog 14 #[.agg #[.int .i64 r.k, .int .i64 r.s, .string r.nm, .int .i64 r.ek, .int .i64 r.ru.f0, .int .i64 r.ru.f1, .int .i64 r.ru.f2, .int .i64 r.ru.f3, .int .u32 r.ru.f4.f0, .int .u32 r.ru.f4.f1, .int .i64 r.ru.f5, .int .i64 r.qk, .int .i64 r.qa, .int .i64 r.qb, .int .i64 r.qw, .int .u32 r.qf, .int .u32 r.qt, .string r.qo]] w fun e w' => e = .returned (.bool (rightQ r)) ∧ Below w.heap.size w w' := by
  have HX0 := r7HX0 r hu w
  have HB0 := r7HB0 r hu w
  have C1 := r7C1 r hu w
  have C2 := r7C2 r hu w
  have C3 := r7C3 r hu w
  have CN := r7CN r hu w
  have CP := Aside0.mk (fun W => counts_any r.k W)
  clear hu
  have HQ : rightQ r = false := by unfold rightQ; simp only [hb1, hb2, hb3, hd4, hd5, hkz, hp, hnE, heZ, Bool.not_false, Bool.not_true, Bool.and_true, Bool.true_and, Bool.and_false, Bool.false_and, Bool.or_true, Bool.true_or, Bool.false_or, Bool.or_false] <;> rfl
  rw [HQ]
  clear HQ
  rw [hb1] at C1
  rw [hb2] at C2
  rw [hb3] at C3
  rw [hp] at CP
  have hd4' : decide (40 < r.nm.size) = false := by rw [← hd4]; exact decide_eq_decide.2 (by omega)
  have hd5' : decide (40 < r.qo.size) = false := by rw [← hd5]; exact decide_eq_decide.2 (by omega)
  have hnE1 : r.nm.toList.isEmpty = true := hnE
  have hnE2 : r.nm.toList = [] := List.isEmpty_iff.1 hnE1
  have heZ' : (r.ek == 0 && (r.ru.f0 == 0 && (r.ru.f1 == 0 && (r.ru.f2 == 0 && (r.ru.f3 == 0 && ((r.ru.f4.f0 == 0 && (r.ru.f4.f1 == 0)) && (r.ru.f5 == 0))))))) = false := heZ
  have heN : (!r.ek == 0 || (!r.ru.f0 == 0 || (!r.ru.f1 == 0 || (!r.ru.f2 == 0 || (!r.ru.f3 == 0 || ((!r.ru.f4.f0 == 0 || !r.ru.f4.f1 == 0) || !r.ru.f5 == 0)))))) = !false := by rw [← heZ']; simp only [Bool.not_and]
  simp only [Bool.not_true, Bool.not_false] at heN
  go_enter Try.func14, Try.ntmps14
  try dsimp only
  repeat ((fail_if_success (show Code.wp _ (Code.seq (Code.region 1 _ _) _) _ _ _)); (first | go_values | go_skip | go_guarded | go_step | go_upon | go_back))
  generalize (w.alloc (.cells #[.int .i64 r.k, .int .i64 r.s, .string r.nm, .int .i64 r.ek, .int .i64 r.ru.f0, .int .i64 r.ru.f1, .int .i64 r.ru.f2, .int .i64 r.ru.f3, .int .u32 r.ru.f4.f0, .int .u32 r.ru.f4.f1, .int .i64 r.ru.f5, .int .i64 r.qk, .int .i64 r.qa, .int .i64 r.qb, .int .i64 r.qw, .int .u32 r.qf, .int .u32 r.qt, .string r.qo] 36)) = W0 at *
  obtain ⟨y0, y1, y2, y3, y4, y5, y6, y7, y8, y9, y10, y11, y12, y13, y14, y15, y16, y17⟩ := HX0.out.cells
  go_wp2_with fail
  refine (C1.out W0).mono ?_
  rintro e W1 ⟨rfl, hb⟩
  have hb2 := ((Below.refl W0.heap.size W0).alloc (Nat.le_refl _) (.cells #[.int .i64 r.k] 3)).trans (hb.mono (by simp))
  have HX1 := Aside0.mk (HX0.out.below hb2)
  have HB1 := Aside0.mk (HB0.out.trans (hb2.mono HB0.out.size))
  clear hb hb2 HX0 HB0 y0 y1 y2 y3 y4 y5 y6 y7 y8 y9 y10 y11 y12 y13 y14 y15 y16 y17
  obtain ⟨y0, y1, y2, y3, y4, y5, y6, y7, y8, y9, y10, y11, y12, y13, y14, y15, y16, y17⟩ := HX1.out.cells
  go_wp2_with fail
  refine (C2.out W1).mono ?_
  rintro e W2 ⟨rfl, hb⟩
  have hb2 := ((Below.refl W1.heap.size W1).alloc (Nat.le_refl _) (.cells #[.int .i64 r.s, .int .i64 r.ek, .int .i64 r.qk, .int .i64 r.qa, .int .i64 r.qb, .int .i64 r.qw] 3)).trans (hb.mono (by simp))
  have HX2 := Aside0.mk (HX1.out.below hb2)
  have HB2 := Aside0.mk (HB1.out.trans (hb2.mono HB1.out.size))
  clear hb hb2 HX1 HB1 y0 y1 y2 y3 y4 y5 y6 y7 y8 y9 y10 y11 y12 y13 y14 y15 y16 y17
  obtain ⟨y0, y1, y2, y3, y4, y5, y6, y7, y8, y9, y10, y11, y12, y13, y14, y15, y16, y17⟩ := HX2.out.cells
  go_wp2_with fail
  refine (CN.out W2).mono ?_
  rintro e W3 ⟨⟨An, cn, rfl, hcn, hCn⟩, hb⟩
  have hb2 := hb
  have HX3 := Aside0.mk (HX2.out.below hb2)
  have HB3 := Aside0.mk (HB2.out.trans (hb2.mono HB2.out.size))
  clear hb hb2 HX2 HB2 y0 y1 y2 y3 y4 y5 y6 y7 y8 y9 y10 y11 y12 y13 y14 y15 y16 y17
  obtain ⟨y0, y1, y2, y3, y4, y5, y6, y7, y8, y9, y10, y11, y12, y13, y14, y15, y16, y17⟩ := HX3.out.cells
  go_wp2_with fail
  refine (C3.out An cn W3 hCn hcn).mono ?_
  rintro e W4 ⟨rfl, hb⟩
  have hb2 := hb
  have HX4 := Aside0.mk (HX3.out.below hb2)
  have HB4 := Aside0.mk (HB3.out.trans (hb2.mono HB3.out.size))
  clear hb hb2 HX3 HB3 y0 y1 y2 y3 y4 y5 y6 y7 y8 y9 y10 y11 y12 y13 y14 y15 y16 y17
  obtain ⟨y0, y1, y2, y3, y4, y5, y6, y7, y8, y9, y10, y11, y12, y13, y14, y15, y16, y17⟩ := HX4.out.cells
  clear hcn hCn
  go_wp2_with fail
  refine (CP.out W4).mono ?_
  rintro e W5 ⟨rfl, hb⟩
  have hb2 := hb
  have HX5 := Aside0.mk (HX4.out.below hb2)
  have HB5 := Aside0.mk (HB4.out.trans (hb2.mono HB4.out.size))
  clear hb hb2 HX4 HB4 y0 y1 y2 y3 y4 y5 y6 y7 y8 y9 y10 y11 y12 y13 y14 y15 y16 y17
  obtain ⟨y0, y1, y2, y3, y4, y5, y6, y7, y8, y9, y10, y11, y12, y13, y14, y15, y16, y17⟩ := HX5.out.cells
  go_wp2_with fail
  go_ret
  exact ⟨rfl, HB5.out⟩
set_option maxHeartbeats 4000000 in
theorem right_any_6 (r : Rq) (hu : okRq r) (w : World) (hb1 : allIn 9 [r.k] = true) (hb2 : allIn 255 [r.s, r.ek, r.qk, r.qa, r.qb, r.qw] = true) (hb3 : allIn 4294967295 (numsR r.ru) = true) (hd4 : decide ((40 : Int) < (r.nm.size : Int)) = false) (hd5 : decide ((40 : Int) < (r.qo.size : Int)) = false) (hkz : (r.k == 0) = false) (hp : partK r.k = 0) (hnE : emptyS r.nm = true) (heZ : edZ r = true) (hqZ : quZ r = false) :
    Calls Try.prog 14 #[.agg #[.int .i64 r.k, .int .i64 r.s, .string r.nm, .int .i64 r.ek, .int .i64 r.ru.f0, .int .i64 r.ru.f1, .int .i64 r.ru.f2, .int .i64 r.ru.f3, .int .u32 r.ru.f4.f0, .int .u32 r.ru.f4.f1, .int .i64 r.ru.f5, .int .i64 r.qk, .int .i64 r.qa, .int .i64 r.qb, .int .i64 r.qw, .int .u32 r.qf, .int .u32 r.qt, .string r.qo]] w fun e w' => e = .returned (.bool (rightQ r)) ∧ Below w.heap.size w w' := by
  have HX0 := r7HX0 r hu w
  have HB0 := r7HB0 r hu w
  have C1 := r7C1 r hu w
  have C2 := r7C2 r hu w
  have C3 := r7C3 r hu w
  have CN := r7CN r hu w
  have CP := Aside0.mk (fun W => counts_any r.k W)
  clear hu
  have HQ : rightQ r = false := by unfold rightQ; simp only [hb1, hb2, hb3, hd4, hd5, hkz, hp, hnE, heZ, hqZ, Bool.not_false, Bool.not_true, Bool.and_true, Bool.true_and, Bool.and_false, Bool.false_and, Bool.or_true, Bool.true_or, Bool.false_or, Bool.or_false] <;> rfl
  rw [HQ]
  clear HQ
  rw [hb1] at C1
  rw [hb2] at C2
  rw [hb3] at C3
  rw [hp] at CP
  have hd4' : decide (40 < r.nm.size) = false := by rw [← hd4]; exact decide_eq_decide.2 (by omega)
  have hd5' : decide (40 < r.qo.size) = false := by rw [← hd5]; exact decide_eq_decide.2 (by omega)
  have hnE1 : r.nm.toList.isEmpty = true := hnE
  have hnE2 : r.nm.toList = [] := List.isEmpty_iff.1 hnE1
  have heZ' : (r.ek == 0 && (r.ru.f0 == 0 && (r.ru.f1 == 0 && (r.ru.f2 == 0 && (r.ru.f3 == 0 && ((r.ru.f4.f0 == 0 && (r.ru.f4.f1 == 0)) && (r.ru.f5 == 0))))))) = true := heZ
  have heN : (!r.ek == 0 || (!r.ru.f0 == 0 || (!r.ru.f1 == 0 || (!r.ru.f2 == 0 || (!r.ru.f3 == 0 || ((!r.ru.f4.f0 == 0 || !r.ru.f4.f1 == 0) || !r.ru.f5 == 0)))))) = !true := by rw [← heZ']; simp only [Bool.not_and]
  simp only [Bool.not_true, Bool.not_false] at heN
  have hqZ' : (r.qk == 0 && (r.qa == 0 && (r.qb == 0 && (r.qw == 0 && ((r.qf == 0 && (r.qt == 0)) && r.qo.toList.isEmpty))))) = false := hqZ
  go_enter Try.func14, Try.ntmps14
  try dsimp only
  repeat ((fail_if_success (show Code.wp _ (Code.seq (Code.region 1 _ _) _) _ _ _)); (first | go_values | go_skip | go_guarded | go_step | go_upon | go_back))
  generalize (w.alloc (.cells #[.int .i64 r.k, .int .i64 r.s, .string r.nm, .int .i64 r.ek, .int .i64 r.ru.f0, .int .i64 r.ru.f1, .int .i64 r.ru.f2, .int .i64 r.ru.f3, .int .u32 r.ru.f4.f0, .int .u32 r.ru.f4.f1, .int .i64 r.ru.f5, .int .i64 r.qk, .int .i64 r.qa, .int .i64 r.qb, .int .i64 r.qw, .int .u32 r.qf, .int .u32 r.qt, .string r.qo] 36)) = W0 at *
  obtain ⟨y0, y1, y2, y3, y4, y5, y6, y7, y8, y9, y10, y11, y12, y13, y14, y15, y16, y17⟩ := HX0.out.cells
  go_wp2_with fail
  refine (C1.out W0).mono ?_
  rintro e W1 ⟨rfl, hb⟩
  have hb2 := ((Below.refl W0.heap.size W0).alloc (Nat.le_refl _) (.cells #[.int .i64 r.k] 3)).trans (hb.mono (by simp))
  have HX1 := Aside0.mk (HX0.out.below hb2)
  have HB1 := Aside0.mk (HB0.out.trans (hb2.mono HB0.out.size))
  clear hb hb2 HX0 HB0 y0 y1 y2 y3 y4 y5 y6 y7 y8 y9 y10 y11 y12 y13 y14 y15 y16 y17
  obtain ⟨y0, y1, y2, y3, y4, y5, y6, y7, y8, y9, y10, y11, y12, y13, y14, y15, y16, y17⟩ := HX1.out.cells
  go_wp2_with fail
  refine (C2.out W1).mono ?_
  rintro e W2 ⟨rfl, hb⟩
  have hb2 := ((Below.refl W1.heap.size W1).alloc (Nat.le_refl _) (.cells #[.int .i64 r.s, .int .i64 r.ek, .int .i64 r.qk, .int .i64 r.qa, .int .i64 r.qb, .int .i64 r.qw] 3)).trans (hb.mono (by simp))
  have HX2 := Aside0.mk (HX1.out.below hb2)
  have HB2 := Aside0.mk (HB1.out.trans (hb2.mono HB1.out.size))
  clear hb hb2 HX1 HB1 y0 y1 y2 y3 y4 y5 y6 y7 y8 y9 y10 y11 y12 y13 y14 y15 y16 y17
  obtain ⟨y0, y1, y2, y3, y4, y5, y6, y7, y8, y9, y10, y11, y12, y13, y14, y15, y16, y17⟩ := HX2.out.cells
  go_wp2_with fail
  refine (CN.out W2).mono ?_
  rintro e W3 ⟨⟨An, cn, rfl, hcn, hCn⟩, hb⟩
  have hb2 := hb
  have HX3 := Aside0.mk (HX2.out.below hb2)
  have HB3 := Aside0.mk (HB2.out.trans (hb2.mono HB2.out.size))
  clear hb hb2 HX2 HB2 y0 y1 y2 y3 y4 y5 y6 y7 y8 y9 y10 y11 y12 y13 y14 y15 y16 y17
  obtain ⟨y0, y1, y2, y3, y4, y5, y6, y7, y8, y9, y10, y11, y12, y13, y14, y15, y16, y17⟩ := HX3.out.cells
  go_wp2_with fail
  refine (C3.out An cn W3 hCn hcn).mono ?_
  rintro e W4 ⟨rfl, hb⟩
  have hb2 := hb
  have HX4 := Aside0.mk (HX3.out.below hb2)
  have HB4 := Aside0.mk (HB3.out.trans (hb2.mono HB3.out.size))
  clear hb hb2 HX3 HB3 y0 y1 y2 y3 y4 y5 y6 y7 y8 y9 y10 y11 y12 y13 y14 y15 y16 y17
  obtain ⟨y0, y1, y2, y3, y4, y5, y6, y7, y8, y9, y10, y11, y12, y13, y14, y15, y16, y17⟩ := HX4.out.cells
  clear hcn hCn
  go_wp2_with fail
  refine (CP.out W4).mono ?_
  rintro e W5 ⟨rfl, hb⟩
  have hb2 := hb
  have HX5 := Aside0.mk (HX4.out.below hb2)
  have HB5 := Aside0.mk (HB4.out.trans (hb2.mono HB4.out.size))
  clear hb hb2 HX4 HB4 y0 y1 y2 y3 y4 y5 y6 y7 y8 y9 y10 y11 y12 y13 y14 y15 y16 y17
  obtain ⟨y0, y1, y2, y3, y4, y5, y6, y7, y8, y9, y10, y11, y12, y13, y14, y15, y16, y17⟩ := HX5.out.cells
  go_wp2_with fail
  go_ret
  exact ⟨rfl, HB5.out⟩
set_option maxHeartbeats 4000000 in
theorem right_any_7 (r : Rq) (hu : okRq r) (w : World) (hb1 : allIn 9 [r.k] = true) (hb2 : allIn 255 [r.s, r.ek, r.qk, r.qa, r.qb, r.qw] = true) (hb3 : allIn 4294967295 (numsR r.ru) = true) (hd4 : decide ((40 : Int) < (r.nm.size : Int)) = false) (hd5 : decide ((40 : Int) < (r.qo.size : Int)) = false) (hkz : (r.k == 0) = false) (hp : partK r.k = 0) (hnE : emptyS r.nm = true) (heZ : edZ r = true) (hqZ : quZ r = true) :
    Calls Try.prog 14 #[.agg #[.int .i64 r.k, .int .i64 r.s, .string r.nm, .int .i64 r.ek, .int .i64 r.ru.f0, .int .i64 r.ru.f1, .int .i64 r.ru.f2, .int .i64 r.ru.f3, .int .u32 r.ru.f4.f0, .int .u32 r.ru.f4.f1, .int .i64 r.ru.f5, .int .i64 r.qk, .int .i64 r.qa, .int .i64 r.qb, .int .i64 r.qw, .int .u32 r.qf, .int .u32 r.qt, .string r.qo]] w fun e w' => e = .returned (.bool (rightQ r)) ∧ Below w.heap.size w w' := by
  have HX0 := r7HX0 r hu w
  have HB0 := r7HB0 r hu w
  have C1 := r7C1 r hu w
  have C2 := r7C2 r hu w
  have C3 := r7C3 r hu w
  have CN := r7CN r hu w
  have CP := Aside0.mk (fun W => counts_any r.k W)
  clear hu
  have HQ : rightQ r = true := by unfold rightQ; simp only [hb1, hb2, hb3, hd4, hd5, hkz, hp, hnE, heZ, hqZ, Bool.not_false, Bool.not_true, Bool.and_true, Bool.true_and, Bool.and_false, Bool.false_and, Bool.or_true, Bool.true_or, Bool.false_or, Bool.or_false] <;> rfl
  rw [HQ]
  clear HQ
  rw [hb1] at C1
  rw [hb2] at C2
  rw [hb3] at C3
  rw [hp] at CP
  have hd4' : decide (40 < r.nm.size) = false := by rw [← hd4]; exact decide_eq_decide.2 (by omega)
  have hd5' : decide (40 < r.qo.size) = false := by rw [← hd5]; exact decide_eq_decide.2 (by omega)
  have hnE1 : r.nm.toList.isEmpty = true := hnE
  have hnE2 : r.nm.toList = [] := List.isEmpty_iff.1 hnE1
  have heZ' : (r.ek == 0 && (r.ru.f0 == 0 && (r.ru.f1 == 0 && (r.ru.f2 == 0 && (r.ru.f3 == 0 && ((r.ru.f4.f0 == 0 && (r.ru.f4.f1 == 0)) && (r.ru.f5 == 0))))))) = true := heZ
  have heN : (!r.ek == 0 || (!r.ru.f0 == 0 || (!r.ru.f1 == 0 || (!r.ru.f2 == 0 || (!r.ru.f3 == 0 || ((!r.ru.f4.f0 == 0 || !r.ru.f4.f1 == 0) || !r.ru.f5 == 0)))))) = !true := by rw [← heZ']; simp only [Bool.not_and]
  simp only [Bool.not_true, Bool.not_false] at heN
  have hqZ' : (r.qk == 0 && (r.qa == 0 && (r.qb == 0 && (r.qw == 0 && ((r.qf == 0 && (r.qt == 0)) && r.qo.toList.isEmpty))))) = true := hqZ
  go_enter Try.func14, Try.ntmps14
  try dsimp only
  repeat ((fail_if_success (show Code.wp _ (Code.seq (Code.region 1 _ _) _) _ _ _)); (first | go_values | go_skip | go_guarded | go_step | go_upon | go_back))
  generalize (w.alloc (.cells #[.int .i64 r.k, .int .i64 r.s, .string r.nm, .int .i64 r.ek, .int .i64 r.ru.f0, .int .i64 r.ru.f1, .int .i64 r.ru.f2, .int .i64 r.ru.f3, .int .u32 r.ru.f4.f0, .int .u32 r.ru.f4.f1, .int .i64 r.ru.f5, .int .i64 r.qk, .int .i64 r.qa, .int .i64 r.qb, .int .i64 r.qw, .int .u32 r.qf, .int .u32 r.qt, .string r.qo] 36)) = W0 at *
  obtain ⟨y0, y1, y2, y3, y4, y5, y6, y7, y8, y9, y10, y11, y12, y13, y14, y15, y16, y17⟩ := HX0.out.cells
  go_wp2_with fail
  refine (C1.out W0).mono ?_
  rintro e W1 ⟨rfl, hb⟩
  have hb2 := ((Below.refl W0.heap.size W0).alloc (Nat.le_refl _) (.cells #[.int .i64 r.k] 3)).trans (hb.mono (by simp))
  have HX1 := Aside0.mk (HX0.out.below hb2)
  have HB1 := Aside0.mk (HB0.out.trans (hb2.mono HB0.out.size))
  clear hb hb2 HX0 HB0 y0 y1 y2 y3 y4 y5 y6 y7 y8 y9 y10 y11 y12 y13 y14 y15 y16 y17
  obtain ⟨y0, y1, y2, y3, y4, y5, y6, y7, y8, y9, y10, y11, y12, y13, y14, y15, y16, y17⟩ := HX1.out.cells
  go_wp2_with fail
  refine (C2.out W1).mono ?_
  rintro e W2 ⟨rfl, hb⟩
  have hb2 := ((Below.refl W1.heap.size W1).alloc (Nat.le_refl _) (.cells #[.int .i64 r.s, .int .i64 r.ek, .int .i64 r.qk, .int .i64 r.qa, .int .i64 r.qb, .int .i64 r.qw] 3)).trans (hb.mono (by simp))
  have HX2 := Aside0.mk (HX1.out.below hb2)
  have HB2 := Aside0.mk (HB1.out.trans (hb2.mono HB1.out.size))
  clear hb hb2 HX1 HB1 y0 y1 y2 y3 y4 y5 y6 y7 y8 y9 y10 y11 y12 y13 y14 y15 y16 y17
  obtain ⟨y0, y1, y2, y3, y4, y5, y6, y7, y8, y9, y10, y11, y12, y13, y14, y15, y16, y17⟩ := HX2.out.cells
  go_wp2_with fail
  refine (CN.out W2).mono ?_
  rintro e W3 ⟨⟨An, cn, rfl, hcn, hCn⟩, hb⟩
  have hb2 := hb
  have HX3 := Aside0.mk (HX2.out.below hb2)
  have HB3 := Aside0.mk (HB2.out.trans (hb2.mono HB2.out.size))
  clear hb hb2 HX2 HB2 y0 y1 y2 y3 y4 y5 y6 y7 y8 y9 y10 y11 y12 y13 y14 y15 y16 y17
  obtain ⟨y0, y1, y2, y3, y4, y5, y6, y7, y8, y9, y10, y11, y12, y13, y14, y15, y16, y17⟩ := HX3.out.cells
  go_wp2_with fail
  refine (C3.out An cn W3 hCn hcn).mono ?_
  rintro e W4 ⟨rfl, hb⟩
  have hb2 := hb
  have HX4 := Aside0.mk (HX3.out.below hb2)
  have HB4 := Aside0.mk (HB3.out.trans (hb2.mono HB3.out.size))
  clear hb hb2 HX3 HB3 y0 y1 y2 y3 y4 y5 y6 y7 y8 y9 y10 y11 y12 y13 y14 y15 y16 y17
  obtain ⟨y0, y1, y2, y3, y4, y5, y6, y7, y8, y9, y10, y11, y12, y13, y14, y15, y16, y17⟩ := HX4.out.cells
  clear hcn hCn
  go_wp2_with fail
  refine (CP.out W4).mono ?_
  rintro e W5 ⟨rfl, hb⟩
  have hb2 := hb
  have HX5 := Aside0.mk (HX4.out.below hb2)
  have HB5 := Aside0.mk (HB4.out.trans (hb2.mono HB4.out.size))
  clear hb hb2 HX4 HB4 y0 y1 y2 y3 y4 y5 y6 y7 y8 y9 y10 y11 y12 y13 y14 y15 y16 y17
  obtain ⟨y0, y1, y2, y3, y4, y5, y6, y7, y8, y9, y10, y11, y12, y13, y14, y15, y16, y17⟩ := HX5.out.cells
  go_wp2_with fail
  go_ret
  exact ⟨rfl, HB5.out⟩
set_option maxHeartbeats 4000000 in
theorem right_any_8 (r : Rq) (hu : okRq r) (w : World) (hb1 : allIn 9 [r.k] = true) (hb2 : allIn 255 [r.s, r.ek, r.qk, r.qa, r.qb, r.qw] = true) (hb3 : allIn 4294967295 (numsR r.ru) = true) (hd4 : decide ((40 : Int) < (r.nm.size : Int)) = false) (hd5 : decide ((40 : Int) < (r.qo.size : Int)) = false) (hkz : (r.k == 0) = false) (hp : partK r.k = 1) (heZ : edZ r = false) :
    Calls Try.prog 14 #[.agg #[.int .i64 r.k, .int .i64 r.s, .string r.nm, .int .i64 r.ek, .int .i64 r.ru.f0, .int .i64 r.ru.f1, .int .i64 r.ru.f2, .int .i64 r.ru.f3, .int .u32 r.ru.f4.f0, .int .u32 r.ru.f4.f1, .int .i64 r.ru.f5, .int .i64 r.qk, .int .i64 r.qa, .int .i64 r.qb, .int .i64 r.qw, .int .u32 r.qf, .int .u32 r.qt, .string r.qo]] w fun e w' => e = .returned (.bool (rightQ r)) ∧ Below w.heap.size w w' := by
  have HX0 := r7HX0 r hu w
  have HB0 := r7HB0 r hu w
  have C1 := r7C1 r hu w
  have C2 := r7C2 r hu w
  have C3 := r7C3 r hu w
  have CN := r7CN r hu w
  have CP := Aside0.mk (fun W => counts_any r.k W)
  clear hu
  have HQ : rightQ r = false := by unfold rightQ; simp only [hb1, hb2, hb3, hd4, hd5, hkz, hp, heZ, Bool.not_false, Bool.not_true, Bool.and_true, Bool.true_and, Bool.and_false, Bool.false_and, Bool.or_true, Bool.true_or, Bool.false_or, Bool.or_false] <;> rfl
  rw [HQ]
  clear HQ
  rw [hb1] at C1
  rw [hb2] at C2
  rw [hb3] at C3
  rw [hp] at CP
  have hd4' : decide (40 < r.nm.size) = false := by rw [← hd4]; exact decide_eq_decide.2 (by omega)
  have hd5' : decide (40 < r.qo.size) = false := by rw [← hd5]; exact decide_eq_decide.2 (by omega)
  have heZ' : (r.ek == 0 && (r.ru.f0 == 0 && (r.ru.f1 == 0 && (r.ru.f2 == 0 && (r.ru.f3 == 0 && ((r.ru.f4.f0 == 0 && (r.ru.f4.f1 == 0)) && (r.ru.f5 == 0))))))) = false := heZ
  have heN : (!r.ek == 0 || (!r.ru.f0 == 0 || (!r.ru.f1 == 0 || (!r.ru.f2 == 0 || (!r.ru.f3 == 0 || ((!r.ru.f4.f0 == 0 || !r.ru.f4.f1 == 0) || !r.ru.f5 == 0)))))) = !false := by rw [← heZ']; simp only [Bool.not_and]
  simp only [Bool.not_true, Bool.not_false] at heN
  go_enter Try.func14, Try.ntmps14
  try dsimp only
  repeat ((fail_if_success (show Code.wp _ (Code.seq (Code.region 1 _ _) _) _ _ _)); (first | go_values | go_skip | go_guarded | go_step | go_upon | go_back))
  generalize (w.alloc (.cells #[.int .i64 r.k, .int .i64 r.s, .string r.nm, .int .i64 r.ek, .int .i64 r.ru.f0, .int .i64 r.ru.f1, .int .i64 r.ru.f2, .int .i64 r.ru.f3, .int .u32 r.ru.f4.f0, .int .u32 r.ru.f4.f1, .int .i64 r.ru.f5, .int .i64 r.qk, .int .i64 r.qa, .int .i64 r.qb, .int .i64 r.qw, .int .u32 r.qf, .int .u32 r.qt, .string r.qo] 36)) = W0 at *
  obtain ⟨y0, y1, y2, y3, y4, y5, y6, y7, y8, y9, y10, y11, y12, y13, y14, y15, y16, y17⟩ := HX0.out.cells
  go_wp2_with fail
  refine (C1.out W0).mono ?_
  rintro e W1 ⟨rfl, hb⟩
  have hb2 := ((Below.refl W0.heap.size W0).alloc (Nat.le_refl _) (.cells #[.int .i64 r.k] 3)).trans (hb.mono (by simp))
  have HX1 := Aside0.mk (HX0.out.below hb2)
  have HB1 := Aside0.mk (HB0.out.trans (hb2.mono HB0.out.size))
  clear hb hb2 HX0 HB0 y0 y1 y2 y3 y4 y5 y6 y7 y8 y9 y10 y11 y12 y13 y14 y15 y16 y17
  obtain ⟨y0, y1, y2, y3, y4, y5, y6, y7, y8, y9, y10, y11, y12, y13, y14, y15, y16, y17⟩ := HX1.out.cells
  go_wp2_with fail
  refine (C2.out W1).mono ?_
  rintro e W2 ⟨rfl, hb⟩
  have hb2 := ((Below.refl W1.heap.size W1).alloc (Nat.le_refl _) (.cells #[.int .i64 r.s, .int .i64 r.ek, .int .i64 r.qk, .int .i64 r.qa, .int .i64 r.qb, .int .i64 r.qw] 3)).trans (hb.mono (by simp))
  have HX2 := Aside0.mk (HX1.out.below hb2)
  have HB2 := Aside0.mk (HB1.out.trans (hb2.mono HB1.out.size))
  clear hb hb2 HX1 HB1 y0 y1 y2 y3 y4 y5 y6 y7 y8 y9 y10 y11 y12 y13 y14 y15 y16 y17
  obtain ⟨y0, y1, y2, y3, y4, y5, y6, y7, y8, y9, y10, y11, y12, y13, y14, y15, y16, y17⟩ := HX2.out.cells
  go_wp2_with fail
  refine (CN.out W2).mono ?_
  rintro e W3 ⟨⟨An, cn, rfl, hcn, hCn⟩, hb⟩
  have hb2 := hb
  have HX3 := Aside0.mk (HX2.out.below hb2)
  have HB3 := Aside0.mk (HB2.out.trans (hb2.mono HB2.out.size))
  clear hb hb2 HX2 HB2 y0 y1 y2 y3 y4 y5 y6 y7 y8 y9 y10 y11 y12 y13 y14 y15 y16 y17
  obtain ⟨y0, y1, y2, y3, y4, y5, y6, y7, y8, y9, y10, y11, y12, y13, y14, y15, y16, y17⟩ := HX3.out.cells
  go_wp2_with fail
  refine (C3.out An cn W3 hCn hcn).mono ?_
  rintro e W4 ⟨rfl, hb⟩
  have hb2 := hb
  have HX4 := Aside0.mk (HX3.out.below hb2)
  have HB4 := Aside0.mk (HB3.out.trans (hb2.mono HB3.out.size))
  clear hb hb2 HX3 HB3 y0 y1 y2 y3 y4 y5 y6 y7 y8 y9 y10 y11 y12 y13 y14 y15 y16 y17
  obtain ⟨y0, y1, y2, y3, y4, y5, y6, y7, y8, y9, y10, y11, y12, y13, y14, y15, y16, y17⟩ := HX4.out.cells
  clear hcn hCn
  go_wp2_with fail
  refine (CP.out W4).mono ?_
  rintro e W5 ⟨rfl, hb⟩
  have hb2 := hb
  have HX5 := Aside0.mk (HX4.out.below hb2)
  have HB5 := Aside0.mk (HB4.out.trans (hb2.mono HB4.out.size))
  clear hb hb2 HX4 HB4 y0 y1 y2 y3 y4 y5 y6 y7 y8 y9 y10 y11 y12 y13 y14 y15 y16 y17
  obtain ⟨y0, y1, y2, y3, y4, y5, y6, y7, y8, y9, y10, y11, y12, y13, y14, y15, y16, y17⟩ := HX5.out.cells
  go_wp2_with fail
  go_ret
  exact ⟨rfl, HB5.out⟩
set_option maxHeartbeats 4000000 in
theorem right_any_9 (r : Rq) (hu : okRq r) (w : World) (hb1 : allIn 9 [r.k] = true) (hb2 : allIn 255 [r.s, r.ek, r.qk, r.qa, r.qb, r.qw] = true) (hb3 : allIn 4294967295 (numsR r.ru) = true) (hd4 : decide ((40 : Int) < (r.nm.size : Int)) = false) (hd5 : decide ((40 : Int) < (r.qo.size : Int)) = false) (hkz : (r.k == 0) = false) (hp : partK r.k = 1) (heZ : edZ r = true) (hqZ : quZ r = false) :
    Calls Try.prog 14 #[.agg #[.int .i64 r.k, .int .i64 r.s, .string r.nm, .int .i64 r.ek, .int .i64 r.ru.f0, .int .i64 r.ru.f1, .int .i64 r.ru.f2, .int .i64 r.ru.f3, .int .u32 r.ru.f4.f0, .int .u32 r.ru.f4.f1, .int .i64 r.ru.f5, .int .i64 r.qk, .int .i64 r.qa, .int .i64 r.qb, .int .i64 r.qw, .int .u32 r.qf, .int .u32 r.qt, .string r.qo]] w fun e w' => e = .returned (.bool (rightQ r)) ∧ Below w.heap.size w w' := by
  have HX0 := r7HX0 r hu w
  have HB0 := r7HB0 r hu w
  have C1 := r7C1 r hu w
  have C2 := r7C2 r hu w
  have C3 := r7C3 r hu w
  have CN := r7CN r hu w
  have CP := Aside0.mk (fun W => counts_any r.k W)
  clear hu
  have HQ : rightQ r = false := by unfold rightQ; simp only [hb1, hb2, hb3, hd4, hd5, hkz, hp, heZ, hqZ, Bool.not_false, Bool.not_true, Bool.and_true, Bool.true_and, Bool.and_false, Bool.false_and, Bool.or_true, Bool.true_or, Bool.false_or, Bool.or_false] <;> rfl
  rw [HQ]
  clear HQ
  rw [hb1] at C1
  rw [hb2] at C2
  rw [hb3] at C3
  rw [hp] at CP
  have hd4' : decide (40 < r.nm.size) = false := by rw [← hd4]; exact decide_eq_decide.2 (by omega)
  have hd5' : decide (40 < r.qo.size) = false := by rw [← hd5]; exact decide_eq_decide.2 (by omega)
  have heZ' : (r.ek == 0 && (r.ru.f0 == 0 && (r.ru.f1 == 0 && (r.ru.f2 == 0 && (r.ru.f3 == 0 && ((r.ru.f4.f0 == 0 && (r.ru.f4.f1 == 0)) && (r.ru.f5 == 0))))))) = true := heZ
  have heN : (!r.ek == 0 || (!r.ru.f0 == 0 || (!r.ru.f1 == 0 || (!r.ru.f2 == 0 || (!r.ru.f3 == 0 || ((!r.ru.f4.f0 == 0 || !r.ru.f4.f1 == 0) || !r.ru.f5 == 0)))))) = !true := by rw [← heZ']; simp only [Bool.not_and]
  simp only [Bool.not_true, Bool.not_false] at heN
  have hqZ' : (r.qk == 0 && (r.qa == 0 && (r.qb == 0 && (r.qw == 0 && ((r.qf == 0 && (r.qt == 0)) && r.qo.toList.isEmpty))))) = false := hqZ
  go_enter Try.func14, Try.ntmps14
  try dsimp only
  repeat ((fail_if_success (show Code.wp _ (Code.seq (Code.region 1 _ _) _) _ _ _)); (first | go_values | go_skip | go_guarded | go_step | go_upon | go_back))
  generalize (w.alloc (.cells #[.int .i64 r.k, .int .i64 r.s, .string r.nm, .int .i64 r.ek, .int .i64 r.ru.f0, .int .i64 r.ru.f1, .int .i64 r.ru.f2, .int .i64 r.ru.f3, .int .u32 r.ru.f4.f0, .int .u32 r.ru.f4.f1, .int .i64 r.ru.f5, .int .i64 r.qk, .int .i64 r.qa, .int .i64 r.qb, .int .i64 r.qw, .int .u32 r.qf, .int .u32 r.qt, .string r.qo] 36)) = W0 at *
  obtain ⟨y0, y1, y2, y3, y4, y5, y6, y7, y8, y9, y10, y11, y12, y13, y14, y15, y16, y17⟩ := HX0.out.cells
  go_wp2_with fail
  refine (C1.out W0).mono ?_
  rintro e W1 ⟨rfl, hb⟩
  have hb2 := ((Below.refl W0.heap.size W0).alloc (Nat.le_refl _) (.cells #[.int .i64 r.k] 3)).trans (hb.mono (by simp))
  have HX1 := Aside0.mk (HX0.out.below hb2)
  have HB1 := Aside0.mk (HB0.out.trans (hb2.mono HB0.out.size))
  clear hb hb2 HX0 HB0 y0 y1 y2 y3 y4 y5 y6 y7 y8 y9 y10 y11 y12 y13 y14 y15 y16 y17
  obtain ⟨y0, y1, y2, y3, y4, y5, y6, y7, y8, y9, y10, y11, y12, y13, y14, y15, y16, y17⟩ := HX1.out.cells
  go_wp2_with fail
  refine (C2.out W1).mono ?_
  rintro e W2 ⟨rfl, hb⟩
  have hb2 := ((Below.refl W1.heap.size W1).alloc (Nat.le_refl _) (.cells #[.int .i64 r.s, .int .i64 r.ek, .int .i64 r.qk, .int .i64 r.qa, .int .i64 r.qb, .int .i64 r.qw] 3)).trans (hb.mono (by simp))
  have HX2 := Aside0.mk (HX1.out.below hb2)
  have HB2 := Aside0.mk (HB1.out.trans (hb2.mono HB1.out.size))
  clear hb hb2 HX1 HB1 y0 y1 y2 y3 y4 y5 y6 y7 y8 y9 y10 y11 y12 y13 y14 y15 y16 y17
  obtain ⟨y0, y1, y2, y3, y4, y5, y6, y7, y8, y9, y10, y11, y12, y13, y14, y15, y16, y17⟩ := HX2.out.cells
  go_wp2_with fail
  refine (CN.out W2).mono ?_
  rintro e W3 ⟨⟨An, cn, rfl, hcn, hCn⟩, hb⟩
  have hb2 := hb
  have HX3 := Aside0.mk (HX2.out.below hb2)
  have HB3 := Aside0.mk (HB2.out.trans (hb2.mono HB2.out.size))
  clear hb hb2 HX2 HB2 y0 y1 y2 y3 y4 y5 y6 y7 y8 y9 y10 y11 y12 y13 y14 y15 y16 y17
  obtain ⟨y0, y1, y2, y3, y4, y5, y6, y7, y8, y9, y10, y11, y12, y13, y14, y15, y16, y17⟩ := HX3.out.cells
  go_wp2_with fail
  refine (C3.out An cn W3 hCn hcn).mono ?_
  rintro e W4 ⟨rfl, hb⟩
  have hb2 := hb
  have HX4 := Aside0.mk (HX3.out.below hb2)
  have HB4 := Aside0.mk (HB3.out.trans (hb2.mono HB3.out.size))
  clear hb hb2 HX3 HB3 y0 y1 y2 y3 y4 y5 y6 y7 y8 y9 y10 y11 y12 y13 y14 y15 y16 y17
  obtain ⟨y0, y1, y2, y3, y4, y5, y6, y7, y8, y9, y10, y11, y12, y13, y14, y15, y16, y17⟩ := HX4.out.cells
  clear hcn hCn
  go_wp2_with fail
  refine (CP.out W4).mono ?_
  rintro e W5 ⟨rfl, hb⟩
  have hb2 := hb
  have HX5 := Aside0.mk (HX4.out.below hb2)
  have HB5 := Aside0.mk (HB4.out.trans (hb2.mono HB4.out.size))
  clear hb hb2 HX4 HB4 y0 y1 y2 y3 y4 y5 y6 y7 y8 y9 y10 y11 y12 y13 y14 y15 y16 y17
  obtain ⟨y0, y1, y2, y3, y4, y5, y6, y7, y8, y9, y10, y11, y12, y13, y14, y15, y16, y17⟩ := HX5.out.cells
  go_wp2_with fail
  go_ret
  exact ⟨rfl, HB5.out⟩
set_option maxHeartbeats 4000000 in
theorem right_any_10 (r : Rq) (hu : okRq r) (w : World) (hb1 : allIn 9 [r.k] = true) (hb2 : allIn 255 [r.s, r.ek, r.qk, r.qa, r.qb, r.qw] = true) (hb3 : allIn 4294967295 (numsR r.ru) = true) (hd4 : decide ((40 : Int) < (r.nm.size : Int)) = false) (hd5 : decide ((40 : Int) < (r.qo.size : Int)) = false) (hkz : (r.k == 0) = false) (hp : partK r.k = 1) (heZ : edZ r = true) (hqZ : quZ r = true) :
    Calls Try.prog 14 #[.agg #[.int .i64 r.k, .int .i64 r.s, .string r.nm, .int .i64 r.ek, .int .i64 r.ru.f0, .int .i64 r.ru.f1, .int .i64 r.ru.f2, .int .i64 r.ru.f3, .int .u32 r.ru.f4.f0, .int .u32 r.ru.f4.f1, .int .i64 r.ru.f5, .int .i64 r.qk, .int .i64 r.qa, .int .i64 r.qb, .int .i64 r.qw, .int .u32 r.qf, .int .u32 r.qt, .string r.qo]] w fun e w' => e = .returned (.bool (rightQ r)) ∧ Below w.heap.size w w' := by
  have HX0 := r7HX0 r hu w
  have HB0 := r7HB0 r hu w
  have C1 := r7C1 r hu w
  have C2 := r7C2 r hu w
  have C3 := r7C3 r hu w
  have CN := r7CN r hu w
  have CP := Aside0.mk (fun W => counts_any r.k W)
  clear hu
  have HQ : rightQ r = true := by unfold rightQ; simp only [hb1, hb2, hb3, hd4, hd5, hkz, hp, heZ, hqZ, Bool.not_false, Bool.not_true, Bool.and_true, Bool.true_and, Bool.and_false, Bool.false_and, Bool.or_true, Bool.true_or, Bool.false_or, Bool.or_false] <;> rfl
  rw [HQ]
  clear HQ
  rw [hb1] at C1
  rw [hb2] at C2
  rw [hb3] at C3
  rw [hp] at CP
  have hd4' : decide (40 < r.nm.size) = false := by rw [← hd4]; exact decide_eq_decide.2 (by omega)
  have hd5' : decide (40 < r.qo.size) = false := by rw [← hd5]; exact decide_eq_decide.2 (by omega)
  have heZ' : (r.ek == 0 && (r.ru.f0 == 0 && (r.ru.f1 == 0 && (r.ru.f2 == 0 && (r.ru.f3 == 0 && ((r.ru.f4.f0 == 0 && (r.ru.f4.f1 == 0)) && (r.ru.f5 == 0))))))) = true := heZ
  have heN : (!r.ek == 0 || (!r.ru.f0 == 0 || (!r.ru.f1 == 0 || (!r.ru.f2 == 0 || (!r.ru.f3 == 0 || ((!r.ru.f4.f0 == 0 || !r.ru.f4.f1 == 0) || !r.ru.f5 == 0)))))) = !true := by rw [← heZ']; simp only [Bool.not_and]
  simp only [Bool.not_true, Bool.not_false] at heN
  have hqZ' : (r.qk == 0 && (r.qa == 0 && (r.qb == 0 && (r.qw == 0 && ((r.qf == 0 && (r.qt == 0)) && r.qo.toList.isEmpty))))) = true := hqZ
  go_enter Try.func14, Try.ntmps14
  try dsimp only
  repeat ((fail_if_success (show Code.wp _ (Code.seq (Code.region 1 _ _) _) _ _ _)); (first | go_values | go_skip | go_guarded | go_step | go_upon | go_back))
  generalize (w.alloc (.cells #[.int .i64 r.k, .int .i64 r.s, .string r.nm, .int .i64 r.ek, .int .i64 r.ru.f0, .int .i64 r.ru.f1, .int .i64 r.ru.f2, .int .i64 r.ru.f3, .int .u32 r.ru.f4.f0, .int .u32 r.ru.f4.f1, .int .i64 r.ru.f5, .int .i64 r.qk, .int .i64 r.qa, .int .i64 r.qb, .int .i64 r.qw, .int .u32 r.qf, .int .u32 r.qt, .string r.qo] 36)) = W0 at *
  obtain ⟨y0, y1, y2, y3, y4, y5, y6, y7, y8, y9, y10, y11, y12, y13, y14, y15, y16, y17⟩ := HX0.out.cells
  go_wp2_with fail
  refine (C1.out W0).mono ?_
  rintro e W1 ⟨rfl, hb⟩
  have hb2 := ((Below.refl W0.heap.size W0).alloc (Nat.le_refl _) (.cells #[.int .i64 r.k] 3)).trans (hb.mono (by simp))
  have HX1 := Aside0.mk (HX0.out.below hb2)
  have HB1 := Aside0.mk (HB0.out.trans (hb2.mono HB0.out.size))
  clear hb hb2 HX0 HB0 y0 y1 y2 y3 y4 y5 y6 y7 y8 y9 y10 y11 y12 y13 y14 y15 y16 y17
  obtain ⟨y0, y1, y2, y3, y4, y5, y6, y7, y8, y9, y10, y11, y12, y13, y14, y15, y16, y17⟩ := HX1.out.cells
  go_wp2_with fail
  refine (C2.out W1).mono ?_
  rintro e W2 ⟨rfl, hb⟩
  have hb2 := ((Below.refl W1.heap.size W1).alloc (Nat.le_refl _) (.cells #[.int .i64 r.s, .int .i64 r.ek, .int .i64 r.qk, .int .i64 r.qa, .int .i64 r.qb, .int .i64 r.qw] 3)).trans (hb.mono (by simp))
  have HX2 := Aside0.mk (HX1.out.below hb2)
  have HB2 := Aside0.mk (HB1.out.trans (hb2.mono HB1.out.size))
  clear hb hb2 HX1 HB1 y0 y1 y2 y3 y4 y5 y6 y7 y8 y9 y10 y11 y12 y13 y14 y15 y16 y17
  obtain ⟨y0, y1, y2, y3, y4, y5, y6, y7, y8, y9, y10, y11, y12, y13, y14, y15, y16, y17⟩ := HX2.out.cells
  go_wp2_with fail
  refine (CN.out W2).mono ?_
  rintro e W3 ⟨⟨An, cn, rfl, hcn, hCn⟩, hb⟩
  have hb2 := hb
  have HX3 := Aside0.mk (HX2.out.below hb2)
  have HB3 := Aside0.mk (HB2.out.trans (hb2.mono HB2.out.size))
  clear hb hb2 HX2 HB2 y0 y1 y2 y3 y4 y5 y6 y7 y8 y9 y10 y11 y12 y13 y14 y15 y16 y17
  obtain ⟨y0, y1, y2, y3, y4, y5, y6, y7, y8, y9, y10, y11, y12, y13, y14, y15, y16, y17⟩ := HX3.out.cells
  go_wp2_with fail
  refine (C3.out An cn W3 hCn hcn).mono ?_
  rintro e W4 ⟨rfl, hb⟩
  have hb2 := hb
  have HX4 := Aside0.mk (HX3.out.below hb2)
  have HB4 := Aside0.mk (HB3.out.trans (hb2.mono HB3.out.size))
  clear hb hb2 HX3 HB3 y0 y1 y2 y3 y4 y5 y6 y7 y8 y9 y10 y11 y12 y13 y14 y15 y16 y17
  obtain ⟨y0, y1, y2, y3, y4, y5, y6, y7, y8, y9, y10, y11, y12, y13, y14, y15, y16, y17⟩ := HX4.out.cells
  clear hcn hCn
  go_wp2_with fail
  refine (CP.out W4).mono ?_
  rintro e W5 ⟨rfl, hb⟩
  have hb2 := hb
  have HX5 := Aside0.mk (HX4.out.below hb2)
  have HB5 := Aside0.mk (HB4.out.trans (hb2.mono HB4.out.size))
  clear hb hb2 HX4 HB4 y0 y1 y2 y3 y4 y5 y6 y7 y8 y9 y10 y11 y12 y13 y14 y15 y16 y17
  obtain ⟨y0, y1, y2, y3, y4, y5, y6, y7, y8, y9, y10, y11, y12, y13, y14, y15, y16, y17⟩ := HX5.out.cells
  go_wp2_with fail
  go_ret
  exact ⟨rfl, HB5.out⟩
set_option maxHeartbeats 4000000 in
theorem right_any_11 (r : Rq) (hu : okRq r) (w : World) (hb1 : allIn 9 [r.k] = true) (hb2 : allIn 255 [r.s, r.ek, r.qk, r.qa, r.qb, r.qw] = true) (hb3 : allIn 4294967295 (numsR r.ru) = true) (hd4 : decide ((40 : Int) < (r.nm.size : Int)) = false) (hd5 : decide ((40 : Int) < (r.qo.size : Int)) = false) (hkz : (r.k == 0) = false) (hp : partK r.k = 2) (hnE : emptyS r.nm = false) :
    Calls Try.prog 14 #[.agg #[.int .i64 r.k, .int .i64 r.s, .string r.nm, .int .i64 r.ek, .int .i64 r.ru.f0, .int .i64 r.ru.f1, .int .i64 r.ru.f2, .int .i64 r.ru.f3, .int .u32 r.ru.f4.f0, .int .u32 r.ru.f4.f1, .int .i64 r.ru.f5, .int .i64 r.qk, .int .i64 r.qa, .int .i64 r.qb, .int .i64 r.qw, .int .u32 r.qf, .int .u32 r.qt, .string r.qo]] w fun e w' => e = .returned (.bool (rightQ r)) ∧ Below w.heap.size w w' := by
  have HX0 := r7HX0 r hu w
  have HB0 := r7HB0 r hu w
  have C1 := r7C1 r hu w
  have C2 := r7C2 r hu w
  have C3 := r7C3 r hu w
  have CN := r7CN r hu w
  have CP := Aside0.mk (fun W => counts_any r.k W)
  clear hu
  have HQ : rightQ r = false := by unfold rightQ; simp only [hb1, hb2, hb3, hd4, hd5, hkz, hp, hnE, Bool.not_false, Bool.not_true, Bool.and_true, Bool.true_and, Bool.and_false, Bool.false_and, Bool.or_true, Bool.true_or, Bool.false_or, Bool.or_false] <;> rfl
  rw [HQ]
  clear HQ
  rw [hb1] at C1
  rw [hb2] at C2
  rw [hb3] at C3
  rw [hp] at CP
  have hd4' : decide (40 < r.nm.size) = false := by rw [← hd4]; exact decide_eq_decide.2 (by omega)
  have hd5' : decide (40 < r.qo.size) = false := by rw [← hd5]; exact decide_eq_decide.2 (by omega)
  have hnE1 : r.nm.toList.isEmpty = false := hnE
  have hnE2 : ¬ r.nm.toList = [] := fun h => by rw [h] at hnE1; cases hnE1
  go_enter Try.func14, Try.ntmps14
  try dsimp only
  repeat ((fail_if_success (show Code.wp _ (Code.seq (Code.region 1 _ _) _) _ _ _)); (first | go_values | go_skip | go_guarded | go_step | go_upon | go_back))
  generalize (w.alloc (.cells #[.int .i64 r.k, .int .i64 r.s, .string r.nm, .int .i64 r.ek, .int .i64 r.ru.f0, .int .i64 r.ru.f1, .int .i64 r.ru.f2, .int .i64 r.ru.f3, .int .u32 r.ru.f4.f0, .int .u32 r.ru.f4.f1, .int .i64 r.ru.f5, .int .i64 r.qk, .int .i64 r.qa, .int .i64 r.qb, .int .i64 r.qw, .int .u32 r.qf, .int .u32 r.qt, .string r.qo] 36)) = W0 at *
  obtain ⟨y0, y1, y2, y3, y4, y5, y6, y7, y8, y9, y10, y11, y12, y13, y14, y15, y16, y17⟩ := HX0.out.cells
  go_wp2_with fail
  refine (C1.out W0).mono ?_
  rintro e W1 ⟨rfl, hb⟩
  have hb2 := ((Below.refl W0.heap.size W0).alloc (Nat.le_refl _) (.cells #[.int .i64 r.k] 3)).trans (hb.mono (by simp))
  have HX1 := Aside0.mk (HX0.out.below hb2)
  have HB1 := Aside0.mk (HB0.out.trans (hb2.mono HB0.out.size))
  clear hb hb2 HX0 HB0 y0 y1 y2 y3 y4 y5 y6 y7 y8 y9 y10 y11 y12 y13 y14 y15 y16 y17
  obtain ⟨y0, y1, y2, y3, y4, y5, y6, y7, y8, y9, y10, y11, y12, y13, y14, y15, y16, y17⟩ := HX1.out.cells
  go_wp2_with fail
  refine (C2.out W1).mono ?_
  rintro e W2 ⟨rfl, hb⟩
  have hb2 := ((Below.refl W1.heap.size W1).alloc (Nat.le_refl _) (.cells #[.int .i64 r.s, .int .i64 r.ek, .int .i64 r.qk, .int .i64 r.qa, .int .i64 r.qb, .int .i64 r.qw] 3)).trans (hb.mono (by simp))
  have HX2 := Aside0.mk (HX1.out.below hb2)
  have HB2 := Aside0.mk (HB1.out.trans (hb2.mono HB1.out.size))
  clear hb hb2 HX1 HB1 y0 y1 y2 y3 y4 y5 y6 y7 y8 y9 y10 y11 y12 y13 y14 y15 y16 y17
  obtain ⟨y0, y1, y2, y3, y4, y5, y6, y7, y8, y9, y10, y11, y12, y13, y14, y15, y16, y17⟩ := HX2.out.cells
  go_wp2_with fail
  refine (CN.out W2).mono ?_
  rintro e W3 ⟨⟨An, cn, rfl, hcn, hCn⟩, hb⟩
  have hb2 := hb
  have HX3 := Aside0.mk (HX2.out.below hb2)
  have HB3 := Aside0.mk (HB2.out.trans (hb2.mono HB2.out.size))
  clear hb hb2 HX2 HB2 y0 y1 y2 y3 y4 y5 y6 y7 y8 y9 y10 y11 y12 y13 y14 y15 y16 y17
  obtain ⟨y0, y1, y2, y3, y4, y5, y6, y7, y8, y9, y10, y11, y12, y13, y14, y15, y16, y17⟩ := HX3.out.cells
  go_wp2_with fail
  refine (C3.out An cn W3 hCn hcn).mono ?_
  rintro e W4 ⟨rfl, hb⟩
  have hb2 := hb
  have HX4 := Aside0.mk (HX3.out.below hb2)
  have HB4 := Aside0.mk (HB3.out.trans (hb2.mono HB3.out.size))
  clear hb hb2 HX3 HB3 y0 y1 y2 y3 y4 y5 y6 y7 y8 y9 y10 y11 y12 y13 y14 y15 y16 y17
  obtain ⟨y0, y1, y2, y3, y4, y5, y6, y7, y8, y9, y10, y11, y12, y13, y14, y15, y16, y17⟩ := HX4.out.cells
  clear hcn hCn
  go_wp2_with fail
  refine (CP.out W4).mono ?_
  rintro e W5 ⟨rfl, hb⟩
  have hb2 := hb
  have HX5 := Aside0.mk (HX4.out.below hb2)
  have HB5 := Aside0.mk (HB4.out.trans (hb2.mono HB4.out.size))
  clear hb hb2 HX4 HB4 y0 y1 y2 y3 y4 y5 y6 y7 y8 y9 y10 y11 y12 y13 y14 y15 y16 y17
  obtain ⟨y0, y1, y2, y3, y4, y5, y6, y7, y8, y9, y10, y11, y12, y13, y14, y15, y16, y17⟩ := HX5.out.cells
  go_wp2_with fail
  go_ret
  exact ⟨rfl, HB5.out⟩
set_option maxHeartbeats 4000000 in
theorem right_any_12 (r : Rq) (hu : okRq r) (w : World) (hb1 : allIn 9 [r.k] = true) (hb2 : allIn 255 [r.s, r.ek, r.qk, r.qa, r.qb, r.qw] = true) (hb3 : allIn 4294967295 (numsR r.ru) = true) (hd4 : decide ((40 : Int) < (r.nm.size : Int)) = false) (hd5 : decide ((40 : Int) < (r.qo.size : Int)) = false) (hkz : (r.k == 0) = false) (hp : partK r.k = 2) (hnE : emptyS r.nm = true) (hqZ : quZ r = false) :
    Calls Try.prog 14 #[.agg #[.int .i64 r.k, .int .i64 r.s, .string r.nm, .int .i64 r.ek, .int .i64 r.ru.f0, .int .i64 r.ru.f1, .int .i64 r.ru.f2, .int .i64 r.ru.f3, .int .u32 r.ru.f4.f0, .int .u32 r.ru.f4.f1, .int .i64 r.ru.f5, .int .i64 r.qk, .int .i64 r.qa, .int .i64 r.qb, .int .i64 r.qw, .int .u32 r.qf, .int .u32 r.qt, .string r.qo]] w fun e w' => e = .returned (.bool (rightQ r)) ∧ Below w.heap.size w w' := by
  have HX0 := r7HX0 r hu w
  have HB0 := r7HB0 r hu w
  have C1 := r7C1 r hu w
  have C2 := r7C2 r hu w
  have C3 := r7C3 r hu w
  have CN := r7CN r hu w
  have CP := Aside0.mk (fun W => counts_any r.k W)
  clear hu
  have HQ : rightQ r = false := by unfold rightQ; simp only [hb1, hb2, hb3, hd4, hd5, hkz, hp, hnE, hqZ, Bool.not_false, Bool.not_true, Bool.and_true, Bool.true_and, Bool.and_false, Bool.false_and, Bool.or_true, Bool.true_or, Bool.false_or, Bool.or_false] <;> rfl
  rw [HQ]
  clear HQ
  rw [hb1] at C1
  rw [hb2] at C2
  rw [hb3] at C3
  rw [hp] at CP
  have hd4' : decide (40 < r.nm.size) = false := by rw [← hd4]; exact decide_eq_decide.2 (by omega)
  have hd5' : decide (40 < r.qo.size) = false := by rw [← hd5]; exact decide_eq_decide.2 (by omega)
  have hnE1 : r.nm.toList.isEmpty = true := hnE
  have hnE2 : r.nm.toList = [] := List.isEmpty_iff.1 hnE1
  have hqZ' : (r.qk == 0 && (r.qa == 0 && (r.qb == 0 && (r.qw == 0 && ((r.qf == 0 && (r.qt == 0)) && r.qo.toList.isEmpty))))) = false := hqZ
  go_enter Try.func14, Try.ntmps14
  try dsimp only
  repeat ((fail_if_success (show Code.wp _ (Code.seq (Code.region 1 _ _) _) _ _ _)); (first | go_values | go_skip | go_guarded | go_step | go_upon | go_back))
  generalize (w.alloc (.cells #[.int .i64 r.k, .int .i64 r.s, .string r.nm, .int .i64 r.ek, .int .i64 r.ru.f0, .int .i64 r.ru.f1, .int .i64 r.ru.f2, .int .i64 r.ru.f3, .int .u32 r.ru.f4.f0, .int .u32 r.ru.f4.f1, .int .i64 r.ru.f5, .int .i64 r.qk, .int .i64 r.qa, .int .i64 r.qb, .int .i64 r.qw, .int .u32 r.qf, .int .u32 r.qt, .string r.qo] 36)) = W0 at *
  obtain ⟨y0, y1, y2, y3, y4, y5, y6, y7, y8, y9, y10, y11, y12, y13, y14, y15, y16, y17⟩ := HX0.out.cells
  go_wp2_with fail
  refine (C1.out W0).mono ?_
  rintro e W1 ⟨rfl, hb⟩
  have hb2 := ((Below.refl W0.heap.size W0).alloc (Nat.le_refl _) (.cells #[.int .i64 r.k] 3)).trans (hb.mono (by simp))
  have HX1 := Aside0.mk (HX0.out.below hb2)
  have HB1 := Aside0.mk (HB0.out.trans (hb2.mono HB0.out.size))
  clear hb hb2 HX0 HB0 y0 y1 y2 y3 y4 y5 y6 y7 y8 y9 y10 y11 y12 y13 y14 y15 y16 y17
  obtain ⟨y0, y1, y2, y3, y4, y5, y6, y7, y8, y9, y10, y11, y12, y13, y14, y15, y16, y17⟩ := HX1.out.cells
  go_wp2_with fail
  refine (C2.out W1).mono ?_
  rintro e W2 ⟨rfl, hb⟩
  have hb2 := ((Below.refl W1.heap.size W1).alloc (Nat.le_refl _) (.cells #[.int .i64 r.s, .int .i64 r.ek, .int .i64 r.qk, .int .i64 r.qa, .int .i64 r.qb, .int .i64 r.qw] 3)).trans (hb.mono (by simp))
  have HX2 := Aside0.mk (HX1.out.below hb2)
  have HB2 := Aside0.mk (HB1.out.trans (hb2.mono HB1.out.size))
  clear hb hb2 HX1 HB1 y0 y1 y2 y3 y4 y5 y6 y7 y8 y9 y10 y11 y12 y13 y14 y15 y16 y17
  obtain ⟨y0, y1, y2, y3, y4, y5, y6, y7, y8, y9, y10, y11, y12, y13, y14, y15, y16, y17⟩ := HX2.out.cells
  go_wp2_with fail
  refine (CN.out W2).mono ?_
  rintro e W3 ⟨⟨An, cn, rfl, hcn, hCn⟩, hb⟩
  have hb2 := hb
  have HX3 := Aside0.mk (HX2.out.below hb2)
  have HB3 := Aside0.mk (HB2.out.trans (hb2.mono HB2.out.size))
  clear hb hb2 HX2 HB2 y0 y1 y2 y3 y4 y5 y6 y7 y8 y9 y10 y11 y12 y13 y14 y15 y16 y17
  obtain ⟨y0, y1, y2, y3, y4, y5, y6, y7, y8, y9, y10, y11, y12, y13, y14, y15, y16, y17⟩ := HX3.out.cells
  go_wp2_with fail
  refine (C3.out An cn W3 hCn hcn).mono ?_
  rintro e W4 ⟨rfl, hb⟩
  have hb2 := hb
  have HX4 := Aside0.mk (HX3.out.below hb2)
  have HB4 := Aside0.mk (HB3.out.trans (hb2.mono HB3.out.size))
  clear hb hb2 HX3 HB3 y0 y1 y2 y3 y4 y5 y6 y7 y8 y9 y10 y11 y12 y13 y14 y15 y16 y17
  obtain ⟨y0, y1, y2, y3, y4, y5, y6, y7, y8, y9, y10, y11, y12, y13, y14, y15, y16, y17⟩ := HX4.out.cells
  clear hcn hCn
  go_wp2_with fail
  refine (CP.out W4).mono ?_
  rintro e W5 ⟨rfl, hb⟩
  have hb2 := hb
  have HX5 := Aside0.mk (HX4.out.below hb2)
  have HB5 := Aside0.mk (HB4.out.trans (hb2.mono HB4.out.size))
  clear hb hb2 HX4 HB4 y0 y1 y2 y3 y4 y5 y6 y7 y8 y9 y10 y11 y12 y13 y14 y15 y16 y17
  obtain ⟨y0, y1, y2, y3, y4, y5, y6, y7, y8, y9, y10, y11, y12, y13, y14, y15, y16, y17⟩ := HX5.out.cells
  go_wp2_with fail
  go_ret
  exact ⟨rfl, HB5.out⟩
set_option maxHeartbeats 4000000 in
theorem right_any_13 (r : Rq) (hu : okRq r) (w : World) (hb1 : allIn 9 [r.k] = true) (hb2 : allIn 255 [r.s, r.ek, r.qk, r.qa, r.qb, r.qw] = true) (hb3 : allIn 4294967295 (numsR r.ru) = true) (hd4 : decide ((40 : Int) < (r.nm.size : Int)) = false) (hd5 : decide ((40 : Int) < (r.qo.size : Int)) = false) (hkz : (r.k == 0) = false) (hp : partK r.k = 2) (hnE : emptyS r.nm = true) (hqZ : quZ r = true) :
    Calls Try.prog 14 #[.agg #[.int .i64 r.k, .int .i64 r.s, .string r.nm, .int .i64 r.ek, .int .i64 r.ru.f0, .int .i64 r.ru.f1, .int .i64 r.ru.f2, .int .i64 r.ru.f3, .int .u32 r.ru.f4.f0, .int .u32 r.ru.f4.f1, .int .i64 r.ru.f5, .int .i64 r.qk, .int .i64 r.qa, .int .i64 r.qb, .int .i64 r.qw, .int .u32 r.qf, .int .u32 r.qt, .string r.qo]] w fun e w' => e = .returned (.bool (rightQ r)) ∧ Below w.heap.size w w' := by
  have HX0 := r7HX0 r hu w
  have HB0 := r7HB0 r hu w
  have C1 := r7C1 r hu w
  have C2 := r7C2 r hu w
  have C3 := r7C3 r hu w
  have CN := r7CN r hu w
  have CP := Aside0.mk (fun W => counts_any r.k W)
  clear hu
  have HQ : rightQ r = true := by unfold rightQ; simp only [hb1, hb2, hb3, hd4, hd5, hkz, hp, hnE, hqZ, Bool.not_false, Bool.not_true, Bool.and_true, Bool.true_and, Bool.and_false, Bool.false_and, Bool.or_true, Bool.true_or, Bool.false_or, Bool.or_false] <;> rfl
  rw [HQ]
  clear HQ
  rw [hb1] at C1
  rw [hb2] at C2
  rw [hb3] at C3
  rw [hp] at CP
  have hd4' : decide (40 < r.nm.size) = false := by rw [← hd4]; exact decide_eq_decide.2 (by omega)
  have hd5' : decide (40 < r.qo.size) = false := by rw [← hd5]; exact decide_eq_decide.2 (by omega)
  have hnE1 : r.nm.toList.isEmpty = true := hnE
  have hnE2 : r.nm.toList = [] := List.isEmpty_iff.1 hnE1
  have hqZ' : (r.qk == 0 && (r.qa == 0 && (r.qb == 0 && (r.qw == 0 && ((r.qf == 0 && (r.qt == 0)) && r.qo.toList.isEmpty))))) = true := hqZ
  go_enter Try.func14, Try.ntmps14
  try dsimp only
  repeat ((fail_if_success (show Code.wp _ (Code.seq (Code.region 1 _ _) _) _ _ _)); (first | go_values | go_skip | go_guarded | go_step | go_upon | go_back))
  generalize (w.alloc (.cells #[.int .i64 r.k, .int .i64 r.s, .string r.nm, .int .i64 r.ek, .int .i64 r.ru.f0, .int .i64 r.ru.f1, .int .i64 r.ru.f2, .int .i64 r.ru.f3, .int .u32 r.ru.f4.f0, .int .u32 r.ru.f4.f1, .int .i64 r.ru.f5, .int .i64 r.qk, .int .i64 r.qa, .int .i64 r.qb, .int .i64 r.qw, .int .u32 r.qf, .int .u32 r.qt, .string r.qo] 36)) = W0 at *
  obtain ⟨y0, y1, y2, y3, y4, y5, y6, y7, y8, y9, y10, y11, y12, y13, y14, y15, y16, y17⟩ := HX0.out.cells
  go_wp2_with fail
  refine (C1.out W0).mono ?_
  rintro e W1 ⟨rfl, hb⟩
  have hb2 := ((Below.refl W0.heap.size W0).alloc (Nat.le_refl _) (.cells #[.int .i64 r.k] 3)).trans (hb.mono (by simp))
  have HX1 := Aside0.mk (HX0.out.below hb2)
  have HB1 := Aside0.mk (HB0.out.trans (hb2.mono HB0.out.size))
  clear hb hb2 HX0 HB0 y0 y1 y2 y3 y4 y5 y6 y7 y8 y9 y10 y11 y12 y13 y14 y15 y16 y17
  obtain ⟨y0, y1, y2, y3, y4, y5, y6, y7, y8, y9, y10, y11, y12, y13, y14, y15, y16, y17⟩ := HX1.out.cells
  go_wp2_with fail
  refine (C2.out W1).mono ?_
  rintro e W2 ⟨rfl, hb⟩
  have hb2 := ((Below.refl W1.heap.size W1).alloc (Nat.le_refl _) (.cells #[.int .i64 r.s, .int .i64 r.ek, .int .i64 r.qk, .int .i64 r.qa, .int .i64 r.qb, .int .i64 r.qw] 3)).trans (hb.mono (by simp))
  have HX2 := Aside0.mk (HX1.out.below hb2)
  have HB2 := Aside0.mk (HB1.out.trans (hb2.mono HB1.out.size))
  clear hb hb2 HX1 HB1 y0 y1 y2 y3 y4 y5 y6 y7 y8 y9 y10 y11 y12 y13 y14 y15 y16 y17
  obtain ⟨y0, y1, y2, y3, y4, y5, y6, y7, y8, y9, y10, y11, y12, y13, y14, y15, y16, y17⟩ := HX2.out.cells
  go_wp2_with fail
  refine (CN.out W2).mono ?_
  rintro e W3 ⟨⟨An, cn, rfl, hcn, hCn⟩, hb⟩
  have hb2 := hb
  have HX3 := Aside0.mk (HX2.out.below hb2)
  have HB3 := Aside0.mk (HB2.out.trans (hb2.mono HB2.out.size))
  clear hb hb2 HX2 HB2 y0 y1 y2 y3 y4 y5 y6 y7 y8 y9 y10 y11 y12 y13 y14 y15 y16 y17
  obtain ⟨y0, y1, y2, y3, y4, y5, y6, y7, y8, y9, y10, y11, y12, y13, y14, y15, y16, y17⟩ := HX3.out.cells
  go_wp2_with fail
  refine (C3.out An cn W3 hCn hcn).mono ?_
  rintro e W4 ⟨rfl, hb⟩
  have hb2 := hb
  have HX4 := Aside0.mk (HX3.out.below hb2)
  have HB4 := Aside0.mk (HB3.out.trans (hb2.mono HB3.out.size))
  clear hb hb2 HX3 HB3 y0 y1 y2 y3 y4 y5 y6 y7 y8 y9 y10 y11 y12 y13 y14 y15 y16 y17
  obtain ⟨y0, y1, y2, y3, y4, y5, y6, y7, y8, y9, y10, y11, y12, y13, y14, y15, y16, y17⟩ := HX4.out.cells
  clear hcn hCn
  go_wp2_with fail
  refine (CP.out W4).mono ?_
  rintro e W5 ⟨rfl, hb⟩
  have hb2 := hb
  have HX5 := Aside0.mk (HX4.out.below hb2)
  have HB5 := Aside0.mk (HB4.out.trans (hb2.mono HB4.out.size))
  clear hb hb2 HX4 HB4 y0 y1 y2 y3 y4 y5 y6 y7 y8 y9 y10 y11 y12 y13 y14 y15 y16 y17
  obtain ⟨y0, y1, y2, y3, y4, y5, y6, y7, y8, y9, y10, y11, y12, y13, y14, y15, y16, y17⟩ := HX5.out.cells
  go_wp2_with fail
  go_ret
  exact ⟨rfl, HB5.out⟩
set_option maxHeartbeats 4000000 in
theorem right_any_14 (r : Rq) (hu : okRq r) (w : World) (hb1 : allIn 9 [r.k] = true) (hb2 : allIn 255 [r.s, r.ek, r.qk, r.qa, r.qb, r.qw] = true) (hb3 : allIn 4294967295 (numsR r.ru) = true) (hd4 : decide ((40 : Int) < (r.nm.size : Int)) = false) (hd5 : decide ((40 : Int) < (r.qo.size : Int)) = false) (hkz : (r.k == 0) = false) (hp : partK r.k = 3) (hnE : emptyS r.nm = false) :
    Calls Try.prog 14 #[.agg #[.int .i64 r.k, .int .i64 r.s, .string r.nm, .int .i64 r.ek, .int .i64 r.ru.f0, .int .i64 r.ru.f1, .int .i64 r.ru.f2, .int .i64 r.ru.f3, .int .u32 r.ru.f4.f0, .int .u32 r.ru.f4.f1, .int .i64 r.ru.f5, .int .i64 r.qk, .int .i64 r.qa, .int .i64 r.qb, .int .i64 r.qw, .int .u32 r.qf, .int .u32 r.qt, .string r.qo]] w fun e w' => e = .returned (.bool (rightQ r)) ∧ Below w.heap.size w w' := by
  have HX0 := r7HX0 r hu w
  have HB0 := r7HB0 r hu w
  have C1 := r7C1 r hu w
  have C2 := r7C2 r hu w
  have C3 := r7C3 r hu w
  have CN := r7CN r hu w
  have CP := Aside0.mk (fun W => counts_any r.k W)
  clear hu
  have HQ : rightQ r = false := by unfold rightQ; simp only [hb1, hb2, hb3, hd4, hd5, hkz, hp, hnE, Bool.not_false, Bool.not_true, Bool.and_true, Bool.true_and, Bool.and_false, Bool.false_and, Bool.or_true, Bool.true_or, Bool.false_or, Bool.or_false] <;> rfl
  rw [HQ]
  clear HQ
  rw [hb1] at C1
  rw [hb2] at C2
  rw [hb3] at C3
  rw [hp] at CP
  have hd4' : decide (40 < r.nm.size) = false := by rw [← hd4]; exact decide_eq_decide.2 (by omega)
  have hd5' : decide (40 < r.qo.size) = false := by rw [← hd5]; exact decide_eq_decide.2 (by omega)
  have hnE1 : r.nm.toList.isEmpty = false := hnE
  have hnE2 : ¬ r.nm.toList = [] := fun h => by rw [h] at hnE1; cases hnE1
  go_enter Try.func14, Try.ntmps14
  try dsimp only
  repeat ((fail_if_success (show Code.wp _ (Code.seq (Code.region 1 _ _) _) _ _ _)); (first | go_values | go_skip | go_guarded | go_step | go_upon | go_back))
  generalize (w.alloc (.cells #[.int .i64 r.k, .int .i64 r.s, .string r.nm, .int .i64 r.ek, .int .i64 r.ru.f0, .int .i64 r.ru.f1, .int .i64 r.ru.f2, .int .i64 r.ru.f3, .int .u32 r.ru.f4.f0, .int .u32 r.ru.f4.f1, .int .i64 r.ru.f5, .int .i64 r.qk, .int .i64 r.qa, .int .i64 r.qb, .int .i64 r.qw, .int .u32 r.qf, .int .u32 r.qt, .string r.qo] 36)) = W0 at *
  obtain ⟨y0, y1, y2, y3, y4, y5, y6, y7, y8, y9, y10, y11, y12, y13, y14, y15, y16, y17⟩ := HX0.out.cells
  go_wp2_with fail
  refine (C1.out W0).mono ?_
  rintro e W1 ⟨rfl, hb⟩
  have hb2 := ((Below.refl W0.heap.size W0).alloc (Nat.le_refl _) (.cells #[.int .i64 r.k] 3)).trans (hb.mono (by simp))
  have HX1 := Aside0.mk (HX0.out.below hb2)
  have HB1 := Aside0.mk (HB0.out.trans (hb2.mono HB0.out.size))
  clear hb hb2 HX0 HB0 y0 y1 y2 y3 y4 y5 y6 y7 y8 y9 y10 y11 y12 y13 y14 y15 y16 y17
  obtain ⟨y0, y1, y2, y3, y4, y5, y6, y7, y8, y9, y10, y11, y12, y13, y14, y15, y16, y17⟩ := HX1.out.cells
  go_wp2_with fail
  refine (C2.out W1).mono ?_
  rintro e W2 ⟨rfl, hb⟩
  have hb2 := ((Below.refl W1.heap.size W1).alloc (Nat.le_refl _) (.cells #[.int .i64 r.s, .int .i64 r.ek, .int .i64 r.qk, .int .i64 r.qa, .int .i64 r.qb, .int .i64 r.qw] 3)).trans (hb.mono (by simp))
  have HX2 := Aside0.mk (HX1.out.below hb2)
  have HB2 := Aside0.mk (HB1.out.trans (hb2.mono HB1.out.size))
  clear hb hb2 HX1 HB1 y0 y1 y2 y3 y4 y5 y6 y7 y8 y9 y10 y11 y12 y13 y14 y15 y16 y17
  obtain ⟨y0, y1, y2, y3, y4, y5, y6, y7, y8, y9, y10, y11, y12, y13, y14, y15, y16, y17⟩ := HX2.out.cells
  go_wp2_with fail
  refine (CN.out W2).mono ?_
  rintro e W3 ⟨⟨An, cn, rfl, hcn, hCn⟩, hb⟩
  have hb2 := hb
  have HX3 := Aside0.mk (HX2.out.below hb2)
  have HB3 := Aside0.mk (HB2.out.trans (hb2.mono HB2.out.size))
  clear hb hb2 HX2 HB2 y0 y1 y2 y3 y4 y5 y6 y7 y8 y9 y10 y11 y12 y13 y14 y15 y16 y17
  obtain ⟨y0, y1, y2, y3, y4, y5, y6, y7, y8, y9, y10, y11, y12, y13, y14, y15, y16, y17⟩ := HX3.out.cells
  go_wp2_with fail
  refine (C3.out An cn W3 hCn hcn).mono ?_
  rintro e W4 ⟨rfl, hb⟩
  have hb2 := hb
  have HX4 := Aside0.mk (HX3.out.below hb2)
  have HB4 := Aside0.mk (HB3.out.trans (hb2.mono HB3.out.size))
  clear hb hb2 HX3 HB3 y0 y1 y2 y3 y4 y5 y6 y7 y8 y9 y10 y11 y12 y13 y14 y15 y16 y17
  obtain ⟨y0, y1, y2, y3, y4, y5, y6, y7, y8, y9, y10, y11, y12, y13, y14, y15, y16, y17⟩ := HX4.out.cells
  clear hcn hCn
  go_wp2_with fail
  refine (CP.out W4).mono ?_
  rintro e W5 ⟨rfl, hb⟩
  have hb2 := hb
  have HX5 := Aside0.mk (HX4.out.below hb2)
  have HB5 := Aside0.mk (HB4.out.trans (hb2.mono HB4.out.size))
  clear hb hb2 HX4 HB4 y0 y1 y2 y3 y4 y5 y6 y7 y8 y9 y10 y11 y12 y13 y14 y15 y16 y17
  obtain ⟨y0, y1, y2, y3, y4, y5, y6, y7, y8, y9, y10, y11, y12, y13, y14, y15, y16, y17⟩ := HX5.out.cells
  go_wp2_with fail
  go_ret
  exact ⟨rfl, HB5.out⟩
set_option maxHeartbeats 4000000 in
theorem right_any_15 (r : Rq) (hu : okRq r) (w : World) (hb1 : allIn 9 [r.k] = true) (hb2 : allIn 255 [r.s, r.ek, r.qk, r.qa, r.qb, r.qw] = true) (hb3 : allIn 4294967295 (numsR r.ru) = true) (hd4 : decide ((40 : Int) < (r.nm.size : Int)) = false) (hd5 : decide ((40 : Int) < (r.qo.size : Int)) = false) (hkz : (r.k == 0) = false) (hp : partK r.k = 3) (hnE : emptyS r.nm = true) (heZ : edZ r = false) :
    Calls Try.prog 14 #[.agg #[.int .i64 r.k, .int .i64 r.s, .string r.nm, .int .i64 r.ek, .int .i64 r.ru.f0, .int .i64 r.ru.f1, .int .i64 r.ru.f2, .int .i64 r.ru.f3, .int .u32 r.ru.f4.f0, .int .u32 r.ru.f4.f1, .int .i64 r.ru.f5, .int .i64 r.qk, .int .i64 r.qa, .int .i64 r.qb, .int .i64 r.qw, .int .u32 r.qf, .int .u32 r.qt, .string r.qo]] w fun e w' => e = .returned (.bool (rightQ r)) ∧ Below w.heap.size w w' := by
  have HX0 := r7HX0 r hu w
  have HB0 := r7HB0 r hu w
  have C1 := r7C1 r hu w
  have C2 := r7C2 r hu w
  have C3 := r7C3 r hu w
  have CN := r7CN r hu w
  have CP := Aside0.mk (fun W => counts_any r.k W)
  clear hu
  have HQ : rightQ r = false := by unfold rightQ; simp only [hb1, hb2, hb3, hd4, hd5, hkz, hp, hnE, heZ, Bool.not_false, Bool.not_true, Bool.and_true, Bool.true_and, Bool.and_false, Bool.false_and, Bool.or_true, Bool.true_or, Bool.false_or, Bool.or_false] <;> rfl
  rw [HQ]
  clear HQ
  rw [hb1] at C1
  rw [hb2] at C2
  rw [hb3] at C3
  rw [hp] at CP
  have hd4' : decide (40 < r.nm.size) = false := by rw [← hd4]; exact decide_eq_decide.2 (by omega)
  have hd5' : decide (40 < r.qo.size) = false := by rw [← hd5]; exact decide_eq_decide.2 (by omega)
  have hnE1 : r.nm.toList.isEmpty = true := hnE
  have hnE2 : r.nm.toList = [] := List.isEmpty_iff.1 hnE1
  have heZ' : (r.ek == 0 && (r.ru.f0 == 0 && (r.ru.f1 == 0 && (r.ru.f2 == 0 && (r.ru.f3 == 0 && ((r.ru.f4.f0 == 0 && (r.ru.f4.f1 == 0)) && (r.ru.f5 == 0))))))) = false := heZ
  have heN : (!r.ek == 0 || (!r.ru.f0 == 0 || (!r.ru.f1 == 0 || (!r.ru.f2 == 0 || (!r.ru.f3 == 0 || ((!r.ru.f4.f0 == 0 || !r.ru.f4.f1 == 0) || !r.ru.f5 == 0)))))) = !false := by rw [← heZ']; simp only [Bool.not_and]
  simp only [Bool.not_true, Bool.not_false] at heN
  go_enter Try.func14, Try.ntmps14
  try dsimp only
  repeat ((fail_if_success (show Code.wp _ (Code.seq (Code.region 1 _ _) _) _ _ _)); (first | go_values | go_skip | go_guarded | go_step | go_upon | go_back))
  generalize (w.alloc (.cells #[.int .i64 r.k, .int .i64 r.s, .string r.nm, .int .i64 r.ek, .int .i64 r.ru.f0, .int .i64 r.ru.f1, .int .i64 r.ru.f2, .int .i64 r.ru.f3, .int .u32 r.ru.f4.f0, .int .u32 r.ru.f4.f1, .int .i64 r.ru.f5, .int .i64 r.qk, .int .i64 r.qa, .int .i64 r.qb, .int .i64 r.qw, .int .u32 r.qf, .int .u32 r.qt, .string r.qo] 36)) = W0 at *
  obtain ⟨y0, y1, y2, y3, y4, y5, y6, y7, y8, y9, y10, y11, y12, y13, y14, y15, y16, y17⟩ := HX0.out.cells
  go_wp2_with fail
  refine (C1.out W0).mono ?_
  rintro e W1 ⟨rfl, hb⟩
  have hb2 := ((Below.refl W0.heap.size W0).alloc (Nat.le_refl _) (.cells #[.int .i64 r.k] 3)).trans (hb.mono (by simp))
  have HX1 := Aside0.mk (HX0.out.below hb2)
  have HB1 := Aside0.mk (HB0.out.trans (hb2.mono HB0.out.size))
  clear hb hb2 HX0 HB0 y0 y1 y2 y3 y4 y5 y6 y7 y8 y9 y10 y11 y12 y13 y14 y15 y16 y17
  obtain ⟨y0, y1, y2, y3, y4, y5, y6, y7, y8, y9, y10, y11, y12, y13, y14, y15, y16, y17⟩ := HX1.out.cells
  go_wp2_with fail
  refine (C2.out W1).mono ?_
  rintro e W2 ⟨rfl, hb⟩
  have hb2 := ((Below.refl W1.heap.size W1).alloc (Nat.le_refl _) (.cells #[.int .i64 r.s, .int .i64 r.ek, .int .i64 r.qk, .int .i64 r.qa, .int .i64 r.qb, .int .i64 r.qw] 3)).trans (hb.mono (by simp))
  have HX2 := Aside0.mk (HX1.out.below hb2)
  have HB2 := Aside0.mk (HB1.out.trans (hb2.mono HB1.out.size))
  clear hb hb2 HX1 HB1 y0 y1 y2 y3 y4 y5 y6 y7 y8 y9 y10 y11 y12 y13 y14 y15 y16 y17
  obtain ⟨y0, y1, y2, y3, y4, y5, y6, y7, y8, y9, y10, y11, y12, y13, y14, y15, y16, y17⟩ := HX2.out.cells
  go_wp2_with fail
  refine (CN.out W2).mono ?_
  rintro e W3 ⟨⟨An, cn, rfl, hcn, hCn⟩, hb⟩
  have hb2 := hb
  have HX3 := Aside0.mk (HX2.out.below hb2)
  have HB3 := Aside0.mk (HB2.out.trans (hb2.mono HB2.out.size))
  clear hb hb2 HX2 HB2 y0 y1 y2 y3 y4 y5 y6 y7 y8 y9 y10 y11 y12 y13 y14 y15 y16 y17
  obtain ⟨y0, y1, y2, y3, y4, y5, y6, y7, y8, y9, y10, y11, y12, y13, y14, y15, y16, y17⟩ := HX3.out.cells
  go_wp2_with fail
  refine (C3.out An cn W3 hCn hcn).mono ?_
  rintro e W4 ⟨rfl, hb⟩
  have hb2 := hb
  have HX4 := Aside0.mk (HX3.out.below hb2)
  have HB4 := Aside0.mk (HB3.out.trans (hb2.mono HB3.out.size))
  clear hb hb2 HX3 HB3 y0 y1 y2 y3 y4 y5 y6 y7 y8 y9 y10 y11 y12 y13 y14 y15 y16 y17
  obtain ⟨y0, y1, y2, y3, y4, y5, y6, y7, y8, y9, y10, y11, y12, y13, y14, y15, y16, y17⟩ := HX4.out.cells
  clear hcn hCn
  go_wp2_with fail
  refine (CP.out W4).mono ?_
  rintro e W5 ⟨rfl, hb⟩
  have hb2 := hb
  have HX5 := Aside0.mk (HX4.out.below hb2)
  have HB5 := Aside0.mk (HB4.out.trans (hb2.mono HB4.out.size))
  clear hb hb2 HX4 HB4 y0 y1 y2 y3 y4 y5 y6 y7 y8 y9 y10 y11 y12 y13 y14 y15 y16 y17
  obtain ⟨y0, y1, y2, y3, y4, y5, y6, y7, y8, y9, y10, y11, y12, y13, y14, y15, y16, y17⟩ := HX5.out.cells
  go_wp2_with fail
  go_ret
  exact ⟨rfl, HB5.out⟩
set_option maxHeartbeats 4000000 in
theorem right_any_16 (r : Rq) (hu : okRq r) (w : World) (hb1 : allIn 9 [r.k] = true) (hb2 : allIn 255 [r.s, r.ek, r.qk, r.qa, r.qb, r.qw] = true) (hb3 : allIn 4294967295 (numsR r.ru) = true) (hd4 : decide ((40 : Int) < (r.nm.size : Int)) = false) (hd5 : decide ((40 : Int) < (r.qo.size : Int)) = false) (hkz : (r.k == 0) = false) (hp : partK r.k = 3) (hnE : emptyS r.nm = true) (heZ : edZ r = true) :
    Calls Try.prog 14 #[.agg #[.int .i64 r.k, .int .i64 r.s, .string r.nm, .int .i64 r.ek, .int .i64 r.ru.f0, .int .i64 r.ru.f1, .int .i64 r.ru.f2, .int .i64 r.ru.f3, .int .u32 r.ru.f4.f0, .int .u32 r.ru.f4.f1, .int .i64 r.ru.f5, .int .i64 r.qk, .int .i64 r.qa, .int .i64 r.qb, .int .i64 r.qw, .int .u32 r.qf, .int .u32 r.qt, .string r.qo]] w fun e w' => e = .returned (.bool (rightQ r)) ∧ Below w.heap.size w w' := by
  have HX0 := r7HX0 r hu w
  have HB0 := r7HB0 r hu w
  have C1 := r7C1 r hu w
  have C2 := r7C2 r hu w
  have C3 := r7C3 r hu w
  have CN := r7CN r hu w
  have CP := Aside0.mk (fun W => counts_any r.k W)
  clear hu
  have HQ : rightQ r = true := by unfold rightQ; simp only [hb1, hb2, hb3, hd4, hd5, hkz, hp, hnE, heZ, Bool.not_false, Bool.not_true, Bool.and_true, Bool.true_and, Bool.and_false, Bool.false_and, Bool.or_true, Bool.true_or, Bool.false_or, Bool.or_false] <;> rfl
  rw [HQ]
  clear HQ
  rw [hb1] at C1
  rw [hb2] at C2
  rw [hb3] at C3
  rw [hp] at CP
  have hd4' : decide (40 < r.nm.size) = false := by rw [← hd4]; exact decide_eq_decide.2 (by omega)
  have hd5' : decide (40 < r.qo.size) = false := by rw [← hd5]; exact decide_eq_decide.2 (by omega)
  have hnE1 : r.nm.toList.isEmpty = true := hnE
  have hnE2 : r.nm.toList = [] := List.isEmpty_iff.1 hnE1
  have heZ' : (r.ek == 0 && (r.ru.f0 == 0 && (r.ru.f1 == 0 && (r.ru.f2 == 0 && (r.ru.f3 == 0 && ((r.ru.f4.f0 == 0 && (r.ru.f4.f1 == 0)) && (r.ru.f5 == 0))))))) = true := heZ
  have heN : (!r.ek == 0 || (!r.ru.f0 == 0 || (!r.ru.f1 == 0 || (!r.ru.f2 == 0 || (!r.ru.f3 == 0 || ((!r.ru.f4.f0 == 0 || !r.ru.f4.f1 == 0) || !r.ru.f5 == 0)))))) = !true := by rw [← heZ']; simp only [Bool.not_and]
  simp only [Bool.not_true, Bool.not_false] at heN
  go_enter Try.func14, Try.ntmps14
  try dsimp only
  repeat ((fail_if_success (show Code.wp _ (Code.seq (Code.region 1 _ _) _) _ _ _)); (first | go_values | go_skip | go_guarded | go_step | go_upon | go_back))
  generalize (w.alloc (.cells #[.int .i64 r.k, .int .i64 r.s, .string r.nm, .int .i64 r.ek, .int .i64 r.ru.f0, .int .i64 r.ru.f1, .int .i64 r.ru.f2, .int .i64 r.ru.f3, .int .u32 r.ru.f4.f0, .int .u32 r.ru.f4.f1, .int .i64 r.ru.f5, .int .i64 r.qk, .int .i64 r.qa, .int .i64 r.qb, .int .i64 r.qw, .int .u32 r.qf, .int .u32 r.qt, .string r.qo] 36)) = W0 at *
  obtain ⟨y0, y1, y2, y3, y4, y5, y6, y7, y8, y9, y10, y11, y12, y13, y14, y15, y16, y17⟩ := HX0.out.cells
  go_wp2_with fail
  refine (C1.out W0).mono ?_
  rintro e W1 ⟨rfl, hb⟩
  have hb2 := ((Below.refl W0.heap.size W0).alloc (Nat.le_refl _) (.cells #[.int .i64 r.k] 3)).trans (hb.mono (by simp))
  have HX1 := Aside0.mk (HX0.out.below hb2)
  have HB1 := Aside0.mk (HB0.out.trans (hb2.mono HB0.out.size))
  clear hb hb2 HX0 HB0 y0 y1 y2 y3 y4 y5 y6 y7 y8 y9 y10 y11 y12 y13 y14 y15 y16 y17
  obtain ⟨y0, y1, y2, y3, y4, y5, y6, y7, y8, y9, y10, y11, y12, y13, y14, y15, y16, y17⟩ := HX1.out.cells
  go_wp2_with fail
  refine (C2.out W1).mono ?_
  rintro e W2 ⟨rfl, hb⟩
  have hb2 := ((Below.refl W1.heap.size W1).alloc (Nat.le_refl _) (.cells #[.int .i64 r.s, .int .i64 r.ek, .int .i64 r.qk, .int .i64 r.qa, .int .i64 r.qb, .int .i64 r.qw] 3)).trans (hb.mono (by simp))
  have HX2 := Aside0.mk (HX1.out.below hb2)
  have HB2 := Aside0.mk (HB1.out.trans (hb2.mono HB1.out.size))
  clear hb hb2 HX1 HB1 y0 y1 y2 y3 y4 y5 y6 y7 y8 y9 y10 y11 y12 y13 y14 y15 y16 y17
  obtain ⟨y0, y1, y2, y3, y4, y5, y6, y7, y8, y9, y10, y11, y12, y13, y14, y15, y16, y17⟩ := HX2.out.cells
  go_wp2_with fail
  refine (CN.out W2).mono ?_
  rintro e W3 ⟨⟨An, cn, rfl, hcn, hCn⟩, hb⟩
  have hb2 := hb
  have HX3 := Aside0.mk (HX2.out.below hb2)
  have HB3 := Aside0.mk (HB2.out.trans (hb2.mono HB2.out.size))
  clear hb hb2 HX2 HB2 y0 y1 y2 y3 y4 y5 y6 y7 y8 y9 y10 y11 y12 y13 y14 y15 y16 y17
  obtain ⟨y0, y1, y2, y3, y4, y5, y6, y7, y8, y9, y10, y11, y12, y13, y14, y15, y16, y17⟩ := HX3.out.cells
  go_wp2_with fail
  refine (C3.out An cn W3 hCn hcn).mono ?_
  rintro e W4 ⟨rfl, hb⟩
  have hb2 := hb
  have HX4 := Aside0.mk (HX3.out.below hb2)
  have HB4 := Aside0.mk (HB3.out.trans (hb2.mono HB3.out.size))
  clear hb hb2 HX3 HB3 y0 y1 y2 y3 y4 y5 y6 y7 y8 y9 y10 y11 y12 y13 y14 y15 y16 y17
  obtain ⟨y0, y1, y2, y3, y4, y5, y6, y7, y8, y9, y10, y11, y12, y13, y14, y15, y16, y17⟩ := HX4.out.cells
  clear hcn hCn
  go_wp2_with fail
  refine (CP.out W4).mono ?_
  rintro e W5 ⟨rfl, hb⟩
  have hb2 := hb
  have HX5 := Aside0.mk (HX4.out.below hb2)
  have HB5 := Aside0.mk (HB4.out.trans (hb2.mono HB4.out.size))
  clear hb hb2 HX4 HB4 y0 y1 y2 y3 y4 y5 y6 y7 y8 y9 y10 y11 y12 y13 y14 y15 y16 y17
  obtain ⟨y0, y1, y2, y3, y4, y5, y6, y7, y8, y9, y10, y11, y12, y13, y14, y15, y16, y17⟩ := HX5.out.cells
  go_wp2_with fail
  go_ret
  exact ⟨rfl, HB5.out⟩
set_option maxHeartbeats 4000000 in
theorem right_any_17 (r : Rq) (hu : okRq r) (w : World) (hb1 : allIn 9 [r.k] = true) (hb2 : allIn 255 [r.s, r.ek, r.qk, r.qa, r.qb, r.qw] = true) (hb3 : allIn 4294967295 (numsR r.ru) = true) (hd4 : decide ((40 : Int) < (r.nm.size : Int)) = false) (hd5 : decide ((40 : Int) < (r.qo.size : Int)) = false) (hkz : (r.k == 0) = true) (hsn : (r.s != 0) = false) (hp : partK r.k = 1) (heZ : edZ r = false) :
    Calls Try.prog 14 #[.agg #[.int .i64 r.k, .int .i64 r.s, .string r.nm, .int .i64 r.ek, .int .i64 r.ru.f0, .int .i64 r.ru.f1, .int .i64 r.ru.f2, .int .i64 r.ru.f3, .int .u32 r.ru.f4.f0, .int .u32 r.ru.f4.f1, .int .i64 r.ru.f5, .int .i64 r.qk, .int .i64 r.qa, .int .i64 r.qb, .int .i64 r.qw, .int .u32 r.qf, .int .u32 r.qt, .string r.qo]] w fun e w' => e = .returned (.bool (rightQ r)) ∧ Below w.heap.size w w' := by
  have HX0 := r7HX0 r hu w
  have HB0 := r7HB0 r hu w
  have C1 := r7C1 r hu w
  have C2 := r7C2 r hu w
  have C3 := r7C3 r hu w
  have CN := r7CN r hu w
  have CP := Aside0.mk (fun W => counts_any r.k W)
  clear hu
  have HQ : rightQ r = false := by unfold rightQ; simp only [hb1, hb2, hb3, hd4, hd5, hkz, hsn, hp, heZ, Bool.not_false, Bool.not_true, Bool.and_true, Bool.true_and, Bool.and_false, Bool.false_and, Bool.or_true, Bool.true_or, Bool.false_or, Bool.or_false] <;> rfl
  rw [HQ]
  clear HQ
  rw [hb1] at C1
  rw [hb2] at C2
  rw [hb3] at C3
  rw [hp] at CP
  have hd4' : decide (40 < r.nm.size) = false := by rw [← hd4]; exact decide_eq_decide.2 (by omega)
  have hd5' : decide (40 < r.qo.size) = false := by rw [← hd5]; exact decide_eq_decide.2 (by omega)
  have heZ' : (r.ek == 0 && (r.ru.f0 == 0 && (r.ru.f1 == 0 && (r.ru.f2 == 0 && (r.ru.f3 == 0 && ((r.ru.f4.f0 == 0 && (r.ru.f4.f1 == 0)) && (r.ru.f5 == 0))))))) = false := heZ
  have heN : (!r.ek == 0 || (!r.ru.f0 == 0 || (!r.ru.f1 == 0 || (!r.ru.f2 == 0 || (!r.ru.f3 == 0 || ((!r.ru.f4.f0 == 0 || !r.ru.f4.f1 == 0) || !r.ru.f5 == 0)))))) = !false := by rw [← heZ']; simp only [Bool.not_and]
  simp only [Bool.not_true, Bool.not_false] at heN
  go_enter Try.func14, Try.ntmps14
  try dsimp only
  repeat ((fail_if_success (show Code.wp _ (Code.seq (Code.region 1 _ _) _) _ _ _)); (first | go_values | go_skip | go_guarded | go_step | go_upon | go_back))
  generalize (w.alloc (.cells #[.int .i64 r.k, .int .i64 r.s, .string r.nm, .int .i64 r.ek, .int .i64 r.ru.f0, .int .i64 r.ru.f1, .int .i64 r.ru.f2, .int .i64 r.ru.f3, .int .u32 r.ru.f4.f0, .int .u32 r.ru.f4.f1, .int .i64 r.ru.f5, .int .i64 r.qk, .int .i64 r.qa, .int .i64 r.qb, .int .i64 r.qw, .int .u32 r.qf, .int .u32 r.qt, .string r.qo] 36)) = W0 at *
  obtain ⟨y0, y1, y2, y3, y4, y5, y6, y7, y8, y9, y10, y11, y12, y13, y14, y15, y16, y17⟩ := HX0.out.cells
  go_wp2_with fail
  refine (C1.out W0).mono ?_
  rintro e W1 ⟨rfl, hb⟩
  have hb2 := ((Below.refl W0.heap.size W0).alloc (Nat.le_refl _) (.cells #[.int .i64 r.k] 3)).trans (hb.mono (by simp))
  have HX1 := Aside0.mk (HX0.out.below hb2)
  have HB1 := Aside0.mk (HB0.out.trans (hb2.mono HB0.out.size))
  clear hb hb2 HX0 HB0 y0 y1 y2 y3 y4 y5 y6 y7 y8 y9 y10 y11 y12 y13 y14 y15 y16 y17
  obtain ⟨y0, y1, y2, y3, y4, y5, y6, y7, y8, y9, y10, y11, y12, y13, y14, y15, y16, y17⟩ := HX1.out.cells
  go_wp2_with fail
  refine (C2.out W1).mono ?_
  rintro e W2 ⟨rfl, hb⟩
  have hb2 := ((Below.refl W1.heap.size W1).alloc (Nat.le_refl _) (.cells #[.int .i64 r.s, .int .i64 r.ek, .int .i64 r.qk, .int .i64 r.qa, .int .i64 r.qb, .int .i64 r.qw] 3)).trans (hb.mono (by simp))
  have HX2 := Aside0.mk (HX1.out.below hb2)
  have HB2 := Aside0.mk (HB1.out.trans (hb2.mono HB1.out.size))
  clear hb hb2 HX1 HB1 y0 y1 y2 y3 y4 y5 y6 y7 y8 y9 y10 y11 y12 y13 y14 y15 y16 y17
  obtain ⟨y0, y1, y2, y3, y4, y5, y6, y7, y8, y9, y10, y11, y12, y13, y14, y15, y16, y17⟩ := HX2.out.cells
  go_wp2_with fail
  refine (CN.out W2).mono ?_
  rintro e W3 ⟨⟨An, cn, rfl, hcn, hCn⟩, hb⟩
  have hb2 := hb
  have HX3 := Aside0.mk (HX2.out.below hb2)
  have HB3 := Aside0.mk (HB2.out.trans (hb2.mono HB2.out.size))
  clear hb hb2 HX2 HB2 y0 y1 y2 y3 y4 y5 y6 y7 y8 y9 y10 y11 y12 y13 y14 y15 y16 y17
  obtain ⟨y0, y1, y2, y3, y4, y5, y6, y7, y8, y9, y10, y11, y12, y13, y14, y15, y16, y17⟩ := HX3.out.cells
  go_wp2_with fail
  refine (C3.out An cn W3 hCn hcn).mono ?_
  rintro e W4 ⟨rfl, hb⟩
  have hb2 := hb
  have HX4 := Aside0.mk (HX3.out.below hb2)
  have HB4 := Aside0.mk (HB3.out.trans (hb2.mono HB3.out.size))
  clear hb hb2 HX3 HB3 y0 y1 y2 y3 y4 y5 y6 y7 y8 y9 y10 y11 y12 y13 y14 y15 y16 y17
  obtain ⟨y0, y1, y2, y3, y4, y5, y6, y7, y8, y9, y10, y11, y12, y13, y14, y15, y16, y17⟩ := HX4.out.cells
  clear hcn hCn
  go_wp2_with fail
  refine (CP.out W4).mono ?_
  rintro e W5 ⟨rfl, hb⟩
  have hb2 := hb
  have HX5 := Aside0.mk (HX4.out.below hb2)
  have HB5 := Aside0.mk (HB4.out.trans (hb2.mono HB4.out.size))
  clear hb hb2 HX4 HB4 y0 y1 y2 y3 y4 y5 y6 y7 y8 y9 y10 y11 y12 y13 y14 y15 y16 y17
  obtain ⟨y0, y1, y2, y3, y4, y5, y6, y7, y8, y9, y10, y11, y12, y13, y14, y15, y16, y17⟩ := HX5.out.cells
  go_wp2_with fail
  go_ret
  exact ⟨rfl, HB5.out⟩
set_option maxHeartbeats 4000000 in
theorem right_any_18 (r : Rq) (hu : okRq r) (w : World) (hb1 : allIn 9 [r.k] = true) (hb2 : allIn 255 [r.s, r.ek, r.qk, r.qa, r.qb, r.qw] = true) (hb3 : allIn 4294967295 (numsR r.ru) = true) (hd4 : decide ((40 : Int) < (r.nm.size : Int)) = false) (hd5 : decide ((40 : Int) < (r.qo.size : Int)) = false) (hkz : (r.k == 0) = true) (hsn : (r.s != 0) = false) (hp : partK r.k = 1) (heZ : edZ r = true) (hqZ : quZ r = false) :
    Calls Try.prog 14 #[.agg #[.int .i64 r.k, .int .i64 r.s, .string r.nm, .int .i64 r.ek, .int .i64 r.ru.f0, .int .i64 r.ru.f1, .int .i64 r.ru.f2, .int .i64 r.ru.f3, .int .u32 r.ru.f4.f0, .int .u32 r.ru.f4.f1, .int .i64 r.ru.f5, .int .i64 r.qk, .int .i64 r.qa, .int .i64 r.qb, .int .i64 r.qw, .int .u32 r.qf, .int .u32 r.qt, .string r.qo]] w fun e w' => e = .returned (.bool (rightQ r)) ∧ Below w.heap.size w w' := by
  have HX0 := r7HX0 r hu w
  have HB0 := r7HB0 r hu w
  have C1 := r7C1 r hu w
  have C2 := r7C2 r hu w
  have C3 := r7C3 r hu w
  have CN := r7CN r hu w
  have CP := Aside0.mk (fun W => counts_any r.k W)
  clear hu
  have HQ : rightQ r = false := by unfold rightQ; simp only [hb1, hb2, hb3, hd4, hd5, hkz, hsn, hp, heZ, hqZ, Bool.not_false, Bool.not_true, Bool.and_true, Bool.true_and, Bool.and_false, Bool.false_and, Bool.or_true, Bool.true_or, Bool.false_or, Bool.or_false] <;> rfl
  rw [HQ]
  clear HQ
  rw [hb1] at C1
  rw [hb2] at C2
  rw [hb3] at C3
  rw [hp] at CP
  have hd4' : decide (40 < r.nm.size) = false := by rw [← hd4]; exact decide_eq_decide.2 (by omega)
  have hd5' : decide (40 < r.qo.size) = false := by rw [← hd5]; exact decide_eq_decide.2 (by omega)
  have heZ' : (r.ek == 0 && (r.ru.f0 == 0 && (r.ru.f1 == 0 && (r.ru.f2 == 0 && (r.ru.f3 == 0 && ((r.ru.f4.f0 == 0 && (r.ru.f4.f1 == 0)) && (r.ru.f5 == 0))))))) = true := heZ
  have heN : (!r.ek == 0 || (!r.ru.f0 == 0 || (!r.ru.f1 == 0 || (!r.ru.f2 == 0 || (!r.ru.f3 == 0 || ((!r.ru.f4.f0 == 0 || !r.ru.f4.f1 == 0) || !r.ru.f5 == 0)))))) = !true := by rw [← heZ']; simp only [Bool.not_and]
  simp only [Bool.not_true, Bool.not_false] at heN
  have hqZ' : (r.qk == 0 && (r.qa == 0 && (r.qb == 0 && (r.qw == 0 && ((r.qf == 0 && (r.qt == 0)) && r.qo.toList.isEmpty))))) = false := hqZ
  go_enter Try.func14, Try.ntmps14
  try dsimp only
  repeat ((fail_if_success (show Code.wp _ (Code.seq (Code.region 1 _ _) _) _ _ _)); (first | go_values | go_skip | go_guarded | go_step | go_upon | go_back))
  generalize (w.alloc (.cells #[.int .i64 r.k, .int .i64 r.s, .string r.nm, .int .i64 r.ek, .int .i64 r.ru.f0, .int .i64 r.ru.f1, .int .i64 r.ru.f2, .int .i64 r.ru.f3, .int .u32 r.ru.f4.f0, .int .u32 r.ru.f4.f1, .int .i64 r.ru.f5, .int .i64 r.qk, .int .i64 r.qa, .int .i64 r.qb, .int .i64 r.qw, .int .u32 r.qf, .int .u32 r.qt, .string r.qo] 36)) = W0 at *
  obtain ⟨y0, y1, y2, y3, y4, y5, y6, y7, y8, y9, y10, y11, y12, y13, y14, y15, y16, y17⟩ := HX0.out.cells
  go_wp2_with fail
  refine (C1.out W0).mono ?_
  rintro e W1 ⟨rfl, hb⟩
  have hb2 := ((Below.refl W0.heap.size W0).alloc (Nat.le_refl _) (.cells #[.int .i64 r.k] 3)).trans (hb.mono (by simp))
  have HX1 := Aside0.mk (HX0.out.below hb2)
  have HB1 := Aside0.mk (HB0.out.trans (hb2.mono HB0.out.size))
  clear hb hb2 HX0 HB0 y0 y1 y2 y3 y4 y5 y6 y7 y8 y9 y10 y11 y12 y13 y14 y15 y16 y17
  obtain ⟨y0, y1, y2, y3, y4, y5, y6, y7, y8, y9, y10, y11, y12, y13, y14, y15, y16, y17⟩ := HX1.out.cells
  go_wp2_with fail
  refine (C2.out W1).mono ?_
  rintro e W2 ⟨rfl, hb⟩
  have hb2 := ((Below.refl W1.heap.size W1).alloc (Nat.le_refl _) (.cells #[.int .i64 r.s, .int .i64 r.ek, .int .i64 r.qk, .int .i64 r.qa, .int .i64 r.qb, .int .i64 r.qw] 3)).trans (hb.mono (by simp))
  have HX2 := Aside0.mk (HX1.out.below hb2)
  have HB2 := Aside0.mk (HB1.out.trans (hb2.mono HB1.out.size))
  clear hb hb2 HX1 HB1 y0 y1 y2 y3 y4 y5 y6 y7 y8 y9 y10 y11 y12 y13 y14 y15 y16 y17
  obtain ⟨y0, y1, y2, y3, y4, y5, y6, y7, y8, y9, y10, y11, y12, y13, y14, y15, y16, y17⟩ := HX2.out.cells
  go_wp2_with fail
  refine (CN.out W2).mono ?_
  rintro e W3 ⟨⟨An, cn, rfl, hcn, hCn⟩, hb⟩
  have hb2 := hb
  have HX3 := Aside0.mk (HX2.out.below hb2)
  have HB3 := Aside0.mk (HB2.out.trans (hb2.mono HB2.out.size))
  clear hb hb2 HX2 HB2 y0 y1 y2 y3 y4 y5 y6 y7 y8 y9 y10 y11 y12 y13 y14 y15 y16 y17
  obtain ⟨y0, y1, y2, y3, y4, y5, y6, y7, y8, y9, y10, y11, y12, y13, y14, y15, y16, y17⟩ := HX3.out.cells
  go_wp2_with fail
  refine (C3.out An cn W3 hCn hcn).mono ?_
  rintro e W4 ⟨rfl, hb⟩
  have hb2 := hb
  have HX4 := Aside0.mk (HX3.out.below hb2)
  have HB4 := Aside0.mk (HB3.out.trans (hb2.mono HB3.out.size))
  clear hb hb2 HX3 HB3 y0 y1 y2 y3 y4 y5 y6 y7 y8 y9 y10 y11 y12 y13 y14 y15 y16 y17
  obtain ⟨y0, y1, y2, y3, y4, y5, y6, y7, y8, y9, y10, y11, y12, y13, y14, y15, y16, y17⟩ := HX4.out.cells
  clear hcn hCn
  go_wp2_with fail
  refine (CP.out W4).mono ?_
  rintro e W5 ⟨rfl, hb⟩
  have hb2 := hb
  have HX5 := Aside0.mk (HX4.out.below hb2)
  have HB5 := Aside0.mk (HB4.out.trans (hb2.mono HB4.out.size))
  clear hb hb2 HX4 HB4 y0 y1 y2 y3 y4 y5 y6 y7 y8 y9 y10 y11 y12 y13 y14 y15 y16 y17
  obtain ⟨y0, y1, y2, y3, y4, y5, y6, y7, y8, y9, y10, y11, y12, y13, y14, y15, y16, y17⟩ := HX5.out.cells
  go_wp2_with fail
  go_ret
  exact ⟨rfl, HB5.out⟩
set_option maxHeartbeats 4000000 in
theorem right_any_19 (r : Rq) (hu : okRq r) (w : World) (hb1 : allIn 9 [r.k] = true) (hb2 : allIn 255 [r.s, r.ek, r.qk, r.qa, r.qb, r.qw] = true) (hb3 : allIn 4294967295 (numsR r.ru) = true) (hd4 : decide ((40 : Int) < (r.nm.size : Int)) = false) (hd5 : decide ((40 : Int) < (r.qo.size : Int)) = false) (hkz : (r.k == 0) = true) (hsn : (r.s != 0) = false) (hp : partK r.k = 1) (heZ : edZ r = true) (hqZ : quZ r = true) :
    Calls Try.prog 14 #[.agg #[.int .i64 r.k, .int .i64 r.s, .string r.nm, .int .i64 r.ek, .int .i64 r.ru.f0, .int .i64 r.ru.f1, .int .i64 r.ru.f2, .int .i64 r.ru.f3, .int .u32 r.ru.f4.f0, .int .u32 r.ru.f4.f1, .int .i64 r.ru.f5, .int .i64 r.qk, .int .i64 r.qa, .int .i64 r.qb, .int .i64 r.qw, .int .u32 r.qf, .int .u32 r.qt, .string r.qo]] w fun e w' => e = .returned (.bool (rightQ r)) ∧ Below w.heap.size w w' := by
  have HX0 := r7HX0 r hu w
  have HB0 := r7HB0 r hu w
  have C1 := r7C1 r hu w
  have C2 := r7C2 r hu w
  have C3 := r7C3 r hu w
  have CN := r7CN r hu w
  have CP := Aside0.mk (fun W => counts_any r.k W)
  clear hu
  have HQ : rightQ r = true := by unfold rightQ; simp only [hb1, hb2, hb3, hd4, hd5, hkz, hsn, hp, heZ, hqZ, Bool.not_false, Bool.not_true, Bool.and_true, Bool.true_and, Bool.and_false, Bool.false_and, Bool.or_true, Bool.true_or, Bool.false_or, Bool.or_false] <;> rfl
  rw [HQ]
  clear HQ
  rw [hb1] at C1
  rw [hb2] at C2
  rw [hb3] at C3
  rw [hp] at CP
  have hd4' : decide (40 < r.nm.size) = false := by rw [← hd4]; exact decide_eq_decide.2 (by omega)
  have hd5' : decide (40 < r.qo.size) = false := by rw [← hd5]; exact decide_eq_decide.2 (by omega)
  have heZ' : (r.ek == 0 && (r.ru.f0 == 0 && (r.ru.f1 == 0 && (r.ru.f2 == 0 && (r.ru.f3 == 0 && ((r.ru.f4.f0 == 0 && (r.ru.f4.f1 == 0)) && (r.ru.f5 == 0))))))) = true := heZ
  have heN : (!r.ek == 0 || (!r.ru.f0 == 0 || (!r.ru.f1 == 0 || (!r.ru.f2 == 0 || (!r.ru.f3 == 0 || ((!r.ru.f4.f0 == 0 || !r.ru.f4.f1 == 0) || !r.ru.f5 == 0)))))) = !true := by rw [← heZ']; simp only [Bool.not_and]
  simp only [Bool.not_true, Bool.not_false] at heN
  have hqZ' : (r.qk == 0 && (r.qa == 0 && (r.qb == 0 && (r.qw == 0 && ((r.qf == 0 && (r.qt == 0)) && r.qo.toList.isEmpty))))) = true := hqZ
  go_enter Try.func14, Try.ntmps14
  try dsimp only
  repeat ((fail_if_success (show Code.wp _ (Code.seq (Code.region 1 _ _) _) _ _ _)); (first | go_values | go_skip | go_guarded | go_step | go_upon | go_back))
  generalize (w.alloc (.cells #[.int .i64 r.k, .int .i64 r.s, .string r.nm, .int .i64 r.ek, .int .i64 r.ru.f0, .int .i64 r.ru.f1, .int .i64 r.ru.f2, .int .i64 r.ru.f3, .int .u32 r.ru.f4.f0, .int .u32 r.ru.f4.f1, .int .i64 r.ru.f5, .int .i64 r.qk, .int .i64 r.qa, .int .i64 r.qb, .int .i64 r.qw, .int .u32 r.qf, .int .u32 r.qt, .string r.qo] 36)) = W0 at *
  obtain ⟨y0, y1, y2, y3, y4, y5, y6, y7, y8, y9, y10, y11, y12, y13, y14, y15, y16, y17⟩ := HX0.out.cells
  go_wp2_with fail
  refine (C1.out W0).mono ?_
  rintro e W1 ⟨rfl, hb⟩
  have hb2 := ((Below.refl W0.heap.size W0).alloc (Nat.le_refl _) (.cells #[.int .i64 r.k] 3)).trans (hb.mono (by simp))
  have HX1 := Aside0.mk (HX0.out.below hb2)
  have HB1 := Aside0.mk (HB0.out.trans (hb2.mono HB0.out.size))
  clear hb hb2 HX0 HB0 y0 y1 y2 y3 y4 y5 y6 y7 y8 y9 y10 y11 y12 y13 y14 y15 y16 y17
  obtain ⟨y0, y1, y2, y3, y4, y5, y6, y7, y8, y9, y10, y11, y12, y13, y14, y15, y16, y17⟩ := HX1.out.cells
  go_wp2_with fail
  refine (C2.out W1).mono ?_
  rintro e W2 ⟨rfl, hb⟩
  have hb2 := ((Below.refl W1.heap.size W1).alloc (Nat.le_refl _) (.cells #[.int .i64 r.s, .int .i64 r.ek, .int .i64 r.qk, .int .i64 r.qa, .int .i64 r.qb, .int .i64 r.qw] 3)).trans (hb.mono (by simp))
  have HX2 := Aside0.mk (HX1.out.below hb2)
  have HB2 := Aside0.mk (HB1.out.trans (hb2.mono HB1.out.size))
  clear hb hb2 HX1 HB1 y0 y1 y2 y3 y4 y5 y6 y7 y8 y9 y10 y11 y12 y13 y14 y15 y16 y17
  obtain ⟨y0, y1, y2, y3, y4, y5, y6, y7, y8, y9, y10, y11, y12, y13, y14, y15, y16, y17⟩ := HX2.out.cells
  go_wp2_with fail
  refine (CN.out W2).mono ?_
  rintro e W3 ⟨⟨An, cn, rfl, hcn, hCn⟩, hb⟩
  have hb2 := hb
  have HX3 := Aside0.mk (HX2.out.below hb2)
  have HB3 := Aside0.mk (HB2.out.trans (hb2.mono HB2.out.size))
  clear hb hb2 HX2 HB2 y0 y1 y2 y3 y4 y5 y6 y7 y8 y9 y10 y11 y12 y13 y14 y15 y16 y17
  obtain ⟨y0, y1, y2, y3, y4, y5, y6, y7, y8, y9, y10, y11, y12, y13, y14, y15, y16, y17⟩ := HX3.out.cells
  go_wp2_with fail
  refine (C3.out An cn W3 hCn hcn).mono ?_
  rintro e W4 ⟨rfl, hb⟩
  have hb2 := hb
  have HX4 := Aside0.mk (HX3.out.below hb2)
  have HB4 := Aside0.mk (HB3.out.trans (hb2.mono HB3.out.size))
  clear hb hb2 HX3 HB3 y0 y1 y2 y3 y4 y5 y6 y7 y8 y9 y10 y11 y12 y13 y14 y15 y16 y17
  obtain ⟨y0, y1, y2, y3, y4, y5, y6, y7, y8, y9, y10, y11, y12, y13, y14, y15, y16, y17⟩ := HX4.out.cells
  clear hcn hCn
  go_wp2_with fail
  refine (CP.out W4).mono ?_
  rintro e W5 ⟨rfl, hb⟩
  have hb2 := hb
  have HX5 := Aside0.mk (HX4.out.below hb2)
  have HB5 := Aside0.mk (HB4.out.trans (hb2.mono HB4.out.size))
  clear hb hb2 HX4 HB4 y0 y1 y2 y3 y4 y5 y6 y7 y8 y9 y10 y11 y12 y13 y14 y15 y16 y17
  obtain ⟨y0, y1, y2, y3, y4, y5, y6, y7, y8, y9, y10, y11, y12, y13, y14, y15, y16, y17⟩ := HX5.out.cells
  go_wp2_with fail
  go_ret
  exact ⟨rfl, HB5.out⟩
set_option maxHeartbeats 4000000 in
theorem right_any_20 (r : Rq) (hu : okRq r) (w : World) (hb1 : allIn 9 [r.k] = true) (hb2 : allIn 255 [r.s, r.ek, r.qk, r.qa, r.qb, r.qw] = true) (hb3 : allIn 4294967295 (numsR r.ru) = true) (hd4 : decide ((40 : Int) < (r.nm.size : Int)) = false) (hd5 : decide ((40 : Int) < (r.qo.size : Int)) = false) (hkz : (r.k == 0) = true) (hsn : (r.s != 0) = true) :
    Calls Try.prog 14 #[.agg #[.int .i64 r.k, .int .i64 r.s, .string r.nm, .int .i64 r.ek, .int .i64 r.ru.f0, .int .i64 r.ru.f1, .int .i64 r.ru.f2, .int .i64 r.ru.f3, .int .u32 r.ru.f4.f0, .int .u32 r.ru.f4.f1, .int .i64 r.ru.f5, .int .i64 r.qk, .int .i64 r.qa, .int .i64 r.qb, .int .i64 r.qw, .int .u32 r.qf, .int .u32 r.qt, .string r.qo]] w fun e w' => e = .returned (.bool (rightQ r)) ∧ Below w.heap.size w w' := by
  have HX0 := r7HX0 r hu w
  have HB0 := r7HB0 r hu w
  have C1 := r7C1 r hu w
  have C2 := r7C2 r hu w
  have C3 := r7C3 r hu w
  have CN := r7CN r hu w
  have CP := Aside0.mk (fun W => counts_any r.k W)
  clear hu
  have HQ : rightQ r = false := by unfold rightQ; simp only [hb1, hb2, hb3, hd4, hd5, hkz, hsn, Bool.not_false, Bool.not_true, Bool.and_true, Bool.true_and, Bool.and_false, Bool.false_and, Bool.or_true, Bool.true_or, Bool.false_or, Bool.or_false] <;> rfl
  rw [HQ]
  clear HQ
  rw [hb1] at C1
  rw [hb2] at C2
  rw [hb3] at C3
  have hd4' : decide (40 < r.nm.size) = false := by rw [← hd4]; exact decide_eq_decide.2 (by omega)
  have hd5' : decide (40 < r.qo.size) = false := by rw [← hd5]; exact decide_eq_decide.2 (by omega)
  go_enter Try.func14, Try.ntmps14
  try dsimp only
  repeat ((fail_if_success (show Code.wp _ (Code.seq (Code.region 1 _ _) _) _ _ _)); (first | go_values | go_skip | go_guarded | go_step | go_upon | go_back))
  generalize (w.alloc (.cells #[.int .i64 r.k, .int .i64 r.s, .string r.nm, .int .i64 r.ek, .int .i64 r.ru.f0, .int .i64 r.ru.f1, .int .i64 r.ru.f2, .int .i64 r.ru.f3, .int .u32 r.ru.f4.f0, .int .u32 r.ru.f4.f1, .int .i64 r.ru.f5, .int .i64 r.qk, .int .i64 r.qa, .int .i64 r.qb, .int .i64 r.qw, .int .u32 r.qf, .int .u32 r.qt, .string r.qo] 36)) = W0 at *
  obtain ⟨y0, y1, y2, y3, y4, y5, y6, y7, y8, y9, y10, y11, y12, y13, y14, y15, y16, y17⟩ := HX0.out.cells
  go_wp2_with fail
  refine (C1.out W0).mono ?_
  rintro e W1 ⟨rfl, hb⟩
  have hb2 := ((Below.refl W0.heap.size W0).alloc (Nat.le_refl _) (.cells #[.int .i64 r.k] 3)).trans (hb.mono (by simp))
  have HX1 := Aside0.mk (HX0.out.below hb2)
  have HB1 := Aside0.mk (HB0.out.trans (hb2.mono HB0.out.size))
  clear hb hb2 HX0 HB0 y0 y1 y2 y3 y4 y5 y6 y7 y8 y9 y10 y11 y12 y13 y14 y15 y16 y17
  obtain ⟨y0, y1, y2, y3, y4, y5, y6, y7, y8, y9, y10, y11, y12, y13, y14, y15, y16, y17⟩ := HX1.out.cells
  go_wp2_with fail
  refine (C2.out W1).mono ?_
  rintro e W2 ⟨rfl, hb⟩
  have hb2 := ((Below.refl W1.heap.size W1).alloc (Nat.le_refl _) (.cells #[.int .i64 r.s, .int .i64 r.ek, .int .i64 r.qk, .int .i64 r.qa, .int .i64 r.qb, .int .i64 r.qw] 3)).trans (hb.mono (by simp))
  have HX2 := Aside0.mk (HX1.out.below hb2)
  have HB2 := Aside0.mk (HB1.out.trans (hb2.mono HB1.out.size))
  clear hb hb2 HX1 HB1 y0 y1 y2 y3 y4 y5 y6 y7 y8 y9 y10 y11 y12 y13 y14 y15 y16 y17
  obtain ⟨y0, y1, y2, y3, y4, y5, y6, y7, y8, y9, y10, y11, y12, y13, y14, y15, y16, y17⟩ := HX2.out.cells
  go_wp2_with fail
  refine (CN.out W2).mono ?_
  rintro e W3 ⟨⟨An, cn, rfl, hcn, hCn⟩, hb⟩
  have hb2 := hb
  have HX3 := Aside0.mk (HX2.out.below hb2)
  have HB3 := Aside0.mk (HB2.out.trans (hb2.mono HB2.out.size))
  clear hb hb2 HX2 HB2 y0 y1 y2 y3 y4 y5 y6 y7 y8 y9 y10 y11 y12 y13 y14 y15 y16 y17
  obtain ⟨y0, y1, y2, y3, y4, y5, y6, y7, y8, y9, y10, y11, y12, y13, y14, y15, y16, y17⟩ := HX3.out.cells
  go_wp2_with fail
  refine (C3.out An cn W3 hCn hcn).mono ?_
  rintro e W4 ⟨rfl, hb⟩
  have hb2 := hb
  have HX4 := Aside0.mk (HX3.out.below hb2)
  have HB4 := Aside0.mk (HB3.out.trans (hb2.mono HB3.out.size))
  clear hb hb2 HX3 HB3 y0 y1 y2 y3 y4 y5 y6 y7 y8 y9 y10 y11 y12 y13 y14 y15 y16 y17
  obtain ⟨y0, y1, y2, y3, y4, y5, y6, y7, y8, y9, y10, y11, y12, y13, y14, y15, y16, y17⟩ := HX4.out.cells
  clear hcn hCn
  go_wp2_with fail
  go_ret
  exact ⟨rfl, HB4.out⟩
set_option maxHeartbeats 4000000 in
theorem right_any_21 (r : Rq) (hu : okRq r) (w : World) (hb1 : allIn 9 [r.k] = true) (hb2 : allIn 255 [r.s, r.ek, r.qk, r.qa, r.qb, r.qw] = true) (hb3 : allIn 4294967295 (numsR r.ru) = true) (hd4 : decide ((40 : Int) < (r.nm.size : Int)) = false) (hd5 : decide ((40 : Int) < (r.qo.size : Int)) = true) :
    Calls Try.prog 14 #[.agg #[.int .i64 r.k, .int .i64 r.s, .string r.nm, .int .i64 r.ek, .int .i64 r.ru.f0, .int .i64 r.ru.f1, .int .i64 r.ru.f2, .int .i64 r.ru.f3, .int .u32 r.ru.f4.f0, .int .u32 r.ru.f4.f1, .int .i64 r.ru.f5, .int .i64 r.qk, .int .i64 r.qa, .int .i64 r.qb, .int .i64 r.qw, .int .u32 r.qf, .int .u32 r.qt, .string r.qo]] w fun e w' => e = .returned (.bool (rightQ r)) ∧ Below w.heap.size w w' := by
  have HX0 := r7HX0 r hu w
  have HB0 := r7HB0 r hu w
  have C1 := r7C1 r hu w
  have C2 := r7C2 r hu w
  have C3 := r7C3 r hu w
  have CN := r7CN r hu w
  have CP := Aside0.mk (fun W => counts_any r.k W)
  clear hu
  have HQ : rightQ r = false := by unfold rightQ; simp only [hb1, hb2, hb3, hd4, hd5, Bool.not_false, Bool.not_true, Bool.and_true, Bool.true_and, Bool.and_false, Bool.false_and, Bool.or_true, Bool.true_or, Bool.false_or, Bool.or_false] <;> rfl
  rw [HQ]
  clear HQ
  rw [hb1] at C1
  rw [hb2] at C2
  rw [hb3] at C3
  have hd4' : decide (40 < r.nm.size) = false := by rw [← hd4]; exact decide_eq_decide.2 (by omega)
  have hd5' : decide (40 < r.qo.size) = true := by rw [← hd5]; exact decide_eq_decide.2 (by omega)
  go_enter Try.func14, Try.ntmps14
  try dsimp only
  repeat ((fail_if_success (show Code.wp _ (Code.seq (Code.region 1 _ _) _) _ _ _)); (first | go_values | go_skip | go_guarded | go_step | go_upon | go_back))
  generalize (w.alloc (.cells #[.int .i64 r.k, .int .i64 r.s, .string r.nm, .int .i64 r.ek, .int .i64 r.ru.f0, .int .i64 r.ru.f1, .int .i64 r.ru.f2, .int .i64 r.ru.f3, .int .u32 r.ru.f4.f0, .int .u32 r.ru.f4.f1, .int .i64 r.ru.f5, .int .i64 r.qk, .int .i64 r.qa, .int .i64 r.qb, .int .i64 r.qw, .int .u32 r.qf, .int .u32 r.qt, .string r.qo] 36)) = W0 at *
  obtain ⟨y0, y1, y2, y3, y4, y5, y6, y7, y8, y9, y10, y11, y12, y13, y14, y15, y16, y17⟩ := HX0.out.cells
  go_wp2_with fail
  refine (C1.out W0).mono ?_
  rintro e W1 ⟨rfl, hb⟩
  have hb2 := ((Below.refl W0.heap.size W0).alloc (Nat.le_refl _) (.cells #[.int .i64 r.k] 3)).trans (hb.mono (by simp))
  have HX1 := Aside0.mk (HX0.out.below hb2)
  have HB1 := Aside0.mk (HB0.out.trans (hb2.mono HB0.out.size))
  clear hb hb2 HX0 HB0 y0 y1 y2 y3 y4 y5 y6 y7 y8 y9 y10 y11 y12 y13 y14 y15 y16 y17
  obtain ⟨y0, y1, y2, y3, y4, y5, y6, y7, y8, y9, y10, y11, y12, y13, y14, y15, y16, y17⟩ := HX1.out.cells
  go_wp2_with fail
  refine (C2.out W1).mono ?_
  rintro e W2 ⟨rfl, hb⟩
  have hb2 := ((Below.refl W1.heap.size W1).alloc (Nat.le_refl _) (.cells #[.int .i64 r.s, .int .i64 r.ek, .int .i64 r.qk, .int .i64 r.qa, .int .i64 r.qb, .int .i64 r.qw] 3)).trans (hb.mono (by simp))
  have HX2 := Aside0.mk (HX1.out.below hb2)
  have HB2 := Aside0.mk (HB1.out.trans (hb2.mono HB1.out.size))
  clear hb hb2 HX1 HB1 y0 y1 y2 y3 y4 y5 y6 y7 y8 y9 y10 y11 y12 y13 y14 y15 y16 y17
  obtain ⟨y0, y1, y2, y3, y4, y5, y6, y7, y8, y9, y10, y11, y12, y13, y14, y15, y16, y17⟩ := HX2.out.cells
  go_wp2_with fail
  refine (CN.out W2).mono ?_
  rintro e W3 ⟨⟨An, cn, rfl, hcn, hCn⟩, hb⟩
  have hb2 := hb
  have HX3 := Aside0.mk (HX2.out.below hb2)
  have HB3 := Aside0.mk (HB2.out.trans (hb2.mono HB2.out.size))
  clear hb hb2 HX2 HB2 y0 y1 y2 y3 y4 y5 y6 y7 y8 y9 y10 y11 y12 y13 y14 y15 y16 y17
  obtain ⟨y0, y1, y2, y3, y4, y5, y6, y7, y8, y9, y10, y11, y12, y13, y14, y15, y16, y17⟩ := HX3.out.cells
  go_wp2_with fail
  refine (C3.out An cn W3 hCn hcn).mono ?_
  rintro e W4 ⟨rfl, hb⟩
  have hb2 := hb
  have HX4 := Aside0.mk (HX3.out.below hb2)
  have HB4 := Aside0.mk (HB3.out.trans (hb2.mono HB3.out.size))
  clear hb hb2 HX3 HB3 y0 y1 y2 y3 y4 y5 y6 y7 y8 y9 y10 y11 y12 y13 y14 y15 y16 y17
  obtain ⟨y0, y1, y2, y3, y4, y5, y6, y7, y8, y9, y10, y11, y12, y13, y14, y15, y16, y17⟩ := HX4.out.cells
  clear hcn hCn
  go_wp2_with fail
  go_ret
  exact ⟨rfl, HB4.out⟩
set_option maxHeartbeats 4000000 in
theorem right_any_22 (r : Rq) (hu : okRq r) (w : World) (hb1 : allIn 9 [r.k] = true) (hb2 : allIn 255 [r.s, r.ek, r.qk, r.qa, r.qb, r.qw] = true) (hb3 : allIn 4294967295 (numsR r.ru) = true) (hd4 : decide ((40 : Int) < (r.nm.size : Int)) = true) :
    Calls Try.prog 14 #[.agg #[.int .i64 r.k, .int .i64 r.s, .string r.nm, .int .i64 r.ek, .int .i64 r.ru.f0, .int .i64 r.ru.f1, .int .i64 r.ru.f2, .int .i64 r.ru.f3, .int .u32 r.ru.f4.f0, .int .u32 r.ru.f4.f1, .int .i64 r.ru.f5, .int .i64 r.qk, .int .i64 r.qa, .int .i64 r.qb, .int .i64 r.qw, .int .u32 r.qf, .int .u32 r.qt, .string r.qo]] w fun e w' => e = .returned (.bool (rightQ r)) ∧ Below w.heap.size w w' := by
  have HX0 := r7HX0 r hu w
  have HB0 := r7HB0 r hu w
  have C1 := r7C1 r hu w
  have C2 := r7C2 r hu w
  have C3 := r7C3 r hu w
  have CN := r7CN r hu w
  have CP := Aside0.mk (fun W => counts_any r.k W)
  clear hu
  have HQ : rightQ r = false := by unfold rightQ; simp only [hb1, hb2, hb3, hd4, Bool.not_false, Bool.not_true, Bool.and_true, Bool.true_and, Bool.and_false, Bool.false_and, Bool.or_true, Bool.true_or, Bool.false_or, Bool.or_false] <;> rfl
  rw [HQ]
  clear HQ
  rw [hb1] at C1
  rw [hb2] at C2
  rw [hb3] at C3
  have hd4' : decide (40 < r.nm.size) = true := by rw [← hd4]; exact decide_eq_decide.2 (by omega)
  go_enter Try.func14, Try.ntmps14
  try dsimp only
  repeat ((fail_if_success (show Code.wp _ (Code.seq (Code.region 1 _ _) _) _ _ _)); (first | go_values | go_skip | go_guarded | go_step | go_upon | go_back))
  generalize (w.alloc (.cells #[.int .i64 r.k, .int .i64 r.s, .string r.nm, .int .i64 r.ek, .int .i64 r.ru.f0, .int .i64 r.ru.f1, .int .i64 r.ru.f2, .int .i64 r.ru.f3, .int .u32 r.ru.f4.f0, .int .u32 r.ru.f4.f1, .int .i64 r.ru.f5, .int .i64 r.qk, .int .i64 r.qa, .int .i64 r.qb, .int .i64 r.qw, .int .u32 r.qf, .int .u32 r.qt, .string r.qo] 36)) = W0 at *
  obtain ⟨y0, y1, y2, y3, y4, y5, y6, y7, y8, y9, y10, y11, y12, y13, y14, y15, y16, y17⟩ := HX0.out.cells
  go_wp2_with fail
  refine (C1.out W0).mono ?_
  rintro e W1 ⟨rfl, hb⟩
  have hb2 := ((Below.refl W0.heap.size W0).alloc (Nat.le_refl _) (.cells #[.int .i64 r.k] 3)).trans (hb.mono (by simp))
  have HX1 := Aside0.mk (HX0.out.below hb2)
  have HB1 := Aside0.mk (HB0.out.trans (hb2.mono HB0.out.size))
  clear hb hb2 HX0 HB0 y0 y1 y2 y3 y4 y5 y6 y7 y8 y9 y10 y11 y12 y13 y14 y15 y16 y17
  obtain ⟨y0, y1, y2, y3, y4, y5, y6, y7, y8, y9, y10, y11, y12, y13, y14, y15, y16, y17⟩ := HX1.out.cells
  go_wp2_with fail
  refine (C2.out W1).mono ?_
  rintro e W2 ⟨rfl, hb⟩
  have hb2 := ((Below.refl W1.heap.size W1).alloc (Nat.le_refl _) (.cells #[.int .i64 r.s, .int .i64 r.ek, .int .i64 r.qk, .int .i64 r.qa, .int .i64 r.qb, .int .i64 r.qw] 3)).trans (hb.mono (by simp))
  have HX2 := Aside0.mk (HX1.out.below hb2)
  have HB2 := Aside0.mk (HB1.out.trans (hb2.mono HB1.out.size))
  clear hb hb2 HX1 HB1 y0 y1 y2 y3 y4 y5 y6 y7 y8 y9 y10 y11 y12 y13 y14 y15 y16 y17
  obtain ⟨y0, y1, y2, y3, y4, y5, y6, y7, y8, y9, y10, y11, y12, y13, y14, y15, y16, y17⟩ := HX2.out.cells
  go_wp2_with fail
  refine (CN.out W2).mono ?_
  rintro e W3 ⟨⟨An, cn, rfl, hcn, hCn⟩, hb⟩
  have hb2 := hb
  have HX3 := Aside0.mk (HX2.out.below hb2)
  have HB3 := Aside0.mk (HB2.out.trans (hb2.mono HB2.out.size))
  clear hb hb2 HX2 HB2 y0 y1 y2 y3 y4 y5 y6 y7 y8 y9 y10 y11 y12 y13 y14 y15 y16 y17
  obtain ⟨y0, y1, y2, y3, y4, y5, y6, y7, y8, y9, y10, y11, y12, y13, y14, y15, y16, y17⟩ := HX3.out.cells
  go_wp2_with fail
  refine (C3.out An cn W3 hCn hcn).mono ?_
  rintro e W4 ⟨rfl, hb⟩
  have hb2 := hb
  have HX4 := Aside0.mk (HX3.out.below hb2)
  have HB4 := Aside0.mk (HB3.out.trans (hb2.mono HB3.out.size))
  clear hb hb2 HX3 HB3 y0 y1 y2 y3 y4 y5 y6 y7 y8 y9 y10 y11 y12 y13 y14 y15 y16 y17
  obtain ⟨y0, y1, y2, y3, y4, y5, y6, y7, y8, y9, y10, y11, y12, y13, y14, y15, y16, y17⟩ := HX4.out.cells
  clear hcn hCn
  go_wp2_with fail
  go_ret
  exact ⟨rfl, HB4.out⟩
set_option maxHeartbeats 16000000 in
theorem right_any (r : Rq) (hu : okRq r) (w : World) :
    Calls Try.prog 14 #[.agg #[.int .i64 r.k, .int .i64 r.s, .string r.nm, .int .i64 r.ek, .int .i64 r.ru.f0, .int .i64 r.ru.f1, .int .i64 r.ru.f2, .int .i64 r.ru.f3, .int .u32 r.ru.f4.f0, .int .u32 r.ru.f4.f1, .int .i64 r.ru.f5, .int .i64 r.qk, .int .i64 r.qa, .int .i64 r.qb, .int .i64 r.qw, .int .u32 r.qf, .int .u32 r.qt, .string r.qo]] w fun e w' => e = .returned (.bool (rightQ r)) ∧ Below w.heap.size w w' := by
  cases hb1 : allIn 9 [r.k] with
  | false =>
    exact right_any_1 r hu w hb1
  | true =>
    cases hb2 : allIn 255 [r.s, r.ek, r.qk, r.qa, r.qb, r.qw] with
    | false =>
      exact right_any_2 r hu w hb1 hb2
    | true =>
      cases hb3 : allIn 4294967295 (numsR r.ru) with
      | false =>
        exact right_any_3 r hu w hb1 hb2 hb3
      | true =>
        cases hd4 : decide ((40 : Int) < (r.nm.size : Int)) with
        | false =>
          cases hd5 : decide ((40 : Int) < (r.qo.size : Int)) with
          | false =>
            cases hkz : (r.k == 0) with
            | false =>
              rcases partK_4 r.k with hp | hp | hp | hp
              · skip
                cases hnE : emptyS r.nm with
                | false =>
                  exact right_any_4 r hu w hb1 hb2 hb3 hd4 hd5 hkz hp hnE
                | true =>
                  cases heZ : edZ r with
                  | false =>
                    exact right_any_5 r hu w hb1 hb2 hb3 hd4 hd5 hkz hp hnE heZ
                  | true =>
                    cases hqZ : quZ r with
                    | false =>
                      exact right_any_6 r hu w hb1 hb2 hb3 hd4 hd5 hkz hp hnE heZ hqZ
                    | true =>
                      exact right_any_7 r hu w hb1 hb2 hb3 hd4 hd5 hkz hp hnE heZ hqZ
              · skip
                cases heZ : edZ r with
                | false =>
                  exact right_any_8 r hu w hb1 hb2 hb3 hd4 hd5 hkz hp heZ
                | true =>
                  cases hqZ : quZ r with
                  | false =>
                    exact right_any_9 r hu w hb1 hb2 hb3 hd4 hd5 hkz hp heZ hqZ
                  | true =>
                    exact right_any_10 r hu w hb1 hb2 hb3 hd4 hd5 hkz hp heZ hqZ
              · skip
                cases hnE : emptyS r.nm with
                | false =>
                  exact right_any_11 r hu w hb1 hb2 hb3 hd4 hd5 hkz hp hnE
                | true =>
                  cases hqZ : quZ r with
                  | false =>
                    exact right_any_12 r hu w hb1 hb2 hb3 hd4 hd5 hkz hp hnE hqZ
                  | true =>
                    exact right_any_13 r hu w hb1 hb2 hb3 hd4 hd5 hkz hp hnE hqZ
              · skip
                cases hnE : emptyS r.nm with
                | false =>
                  exact right_any_14 r hu w hb1 hb2 hb3 hd4 hd5 hkz hp hnE
                | true =>
                  cases heZ : edZ r with
                  | false =>
                    exact right_any_15 r hu w hb1 hb2 hb3 hd4 hd5 hkz hp hnE heZ
                  | true =>
                    exact right_any_16 r hu w hb1 hb2 hb3 hd4 hd5 hkz hp hnE heZ
            | true =>
              cases hsn : (r.s != 0) with
              | false =>
                have hp : partK r.k = 1 := by rw [show r.k = 0 from by simpa using hkz]; rfl
                cases heZ : edZ r with
                | false =>
                  exact right_any_17 r hu w hb1 hb2 hb3 hd4 hd5 hkz hsn hp heZ
                | true =>
                  cases hqZ : quZ r with
                  | false =>
                    exact right_any_18 r hu w hb1 hb2 hb3 hd4 hd5 hkz hsn hp heZ hqZ
                  | true =>
                    exact right_any_19 r hu w hb1 hb2 hb3 hd4 hd5 hkz hsn hp heZ hqZ
              | true =>
                exact right_any_20 r hu w hb1 hb2 hb3 hd4 hd5 hkz hsn
          | true =>
            exact right_any_21 r hu w hb1 hb2 hb3 hd4 hd5
        | true =>
          exact right_any_22 r hu w hb1 hb2 hb3 hd4
end Go.Proofs.Ytpaknjmcjblahaa.H
