/- Rul4, Rul5. -/
import Derived.Test.YtkjighagiecbaaaGRul3
import Derived.StillTailTactics
import Derived.Test.YtkjighagiecbaaaGTopo4
import Derived.Test.YtkjighagiecbaaaGFatR
/-! ### Rul4 -/
namespace Go.Proofs.Ytkjighagiecbaaa.H
open Go.RowKit Go.Proofs.Ytkjighagiecbaaa.P Go.Proofs.YtkjighagiecbaaaW.PrintWords Go.Proofs.YtkjighagiecbaaaW.PrintLast Go.Proofs.YtkjighagiecbaaaW.PrintMore
set_option linter.unusedVariables false
set_option linter.unusedSimpArgs false
set_option maxRecDepth 20000
def cmp2 (a b : Int) : Int := if a < b then -1 else if b < a then 1 else 0
def ordR (x y : Rul) : Int := if cmp2 y.f2 x.f2 = 0 then cmp2 x.f0 y.f0 else cmp2 y.f2 x.f2
theorem cmp2_zero (a b : Int) : cmp2 a b = 0 ↔ a = b := by
  unfold cmp2
  split
  · exact ⟨fun h => by omega, fun h => by omega⟩
  · split
    · exact ⟨fun h => by omega, fun h => by omega⟩
    · exact ⟨fun h => by omega, fun h => rfl⟩
theorem cmp2_neg (a b : Int) : cmp2 a b < 0 ↔ a < b := by
  unfold cmp2
  split
  · exact ⟨fun _ => by assumption, fun _ => by decide⟩
  · split
    · exact ⟨fun h => by omega, fun h => by omega⟩
    · exact ⟨fun h => by omega, fun h => by omega⟩
theorem compare_f (a b : Int) : B.cmp_Compare_int.f a b = some (cmp2 a b) := by
  unfold B.cmp_Compare_int.f B.cmp_isNaN_int.f cmp2
  simp only [bne_self_eq_false, Option.bind_some, Bool.false_eq_true, if_false, gt_iff_lt]
  split
  · rfl
  · split <;> rfl
theorem ord_neg (x y : Rul) : decide (ordR x y < 0) = aheadR x y := by
  unfold ordR aheadR
  by_cases h : y.f2 = x.f2
  · rw [if_pos ((cmp2_zero _ _).2 h), h]
    simp [cmp2_neg]
  · rw [if_neg (fun e => h ((cmp2_zero _ _).1 e))]
    simp [cmp2_neg, h]
theorem ahead_f (x y : Rul) : B.rule_ahead.f 4 x.f0 x.f1 x.f2 x.f3 x.f4.f0 x.f4.f1 x.f5 y.f0 y.f1 y.f2 y.f3 y.f4.f0 y.f4.f1 y.f5 = some (ordR x y) := by
  unfold B.rule_ahead.f
  rw [compare_f, compare_f]
  simp only [Option.bind_some]
  unfold B.cmp_Or_int.f ordR
  generalize cmp2 y.f2 x.f2 = a
  generalize cmp2 x.f0 y.f0 = b
  have h0 : rd [a, b] 0 = a := rfl
  have h1 : rd [a, b] 1 = b := rfl
  rw [B.cmp_Or_int.l0, B.cmp_Or_int.l0, B.cmp_Or_int.l0]
  simp only [h0, h1, List.length_cons, List.length_nil]
  by_cases ha : a = 0
  · subst ha
    by_cases hb : b = 0
    · subst hb
      simp [wrap64, h1]
    · simp [wrap64, h1, hb]
  · simp [ha]
theorem ahead_any (x y : Rul) (w : World) : Calls Try.prog 58 #[encR x, encR y] w fun e w' => e = .returned (.int .i64 (ordR x y)) ∧ Below w.heap.size w w' :=
  B.rule_ahead.calls 4 _ _ _ _ _ _ _ _ _ _ _ _ _ _ _ w (ahead_f x y)
theorem addr_zero (a : Addr) : a.add 0 = a := by
  obtain ⟨b, o, p⟩ := a
  unfold Addr.add
  split <;> simp_all
def blkR (r : Rul) : Obj := .cells #[.int .i64 r.f0, .int .i64 r.f1, .int .i64 r.f2, .int .i64 r.f3, .int .u32 r.f4.f0, .int .u32 r.f4.f1, .int .i64 r.f5] 62 (0, 0)
def least (m : Rul) (l : List Rul) : Rul := l.foldl (fun m y => if aheadR y m = true then y else m) m
theorem least_snoc (m : Rul) (l : List Rul) (y : Rul) : least m (l ++ [y]) = if aheadR y (least m l) = true then y else least m l := by
  unfold least
  rw [List.foldl_append]
  rfl
theorem setCells_rule {w : World} {g : Nat} {m : Rul} (y : Rul) (h : w.heap[g]? = some (blkR m)) : (w.setCells g 0 (rcells y)).heap[g]? = some (blkR y) := by
  have := setCells_laid (rcells y) 0 h
  rw [this]
  rfl
theorem heap_setCells_ne {g k : Nat} (hne : k ≠ g) : ∀ (vs : List Value) (o : Nat) (w : World), (w.setCells g o vs).heap[k]? = w.heap[k]?
  | [], _, _ => rfl
  | v :: r, o, w => (heap_setCells_ne hne r (o + 1) (w.setCell ⟨g, o, none⟩ v)).trans (Below.heap_setCell w ⟨g, o, none⟩ v k hne)
def MinAt (g : Nat) (m : Rul) (w0 w : World) : Prop := w.heap[g]? = some (blkR m) ∧ w.heap[w0.heap.size]? = some (blkR ⟨0, 0, 0, 0, ⟨0, 0⟩, 0⟩) ∧ Below w0.heap.size w0 w
set_option maxHeartbeats 4000000 in
theorem minf_any (A : Option Addr) (c : Nat) (x : Rul) (t : List Rul) (w : World) (hr : Kd.C k62 w A (x :: t).length (x :: t)) :
    Calls Try.prog 57 #[.slice A (x :: t).length c, .func (.func 58) #[] #[]] w fun e w' => e = .returned (encR (least x t)) ∧ Below w.heap.size w w' := by
  have huR := Try.underlying62
  have hn : 1 ≤ (x :: t).length := by simp
  have HM := Aside0.mk (Kd.C_max hr)
  have hr1 := Kd.C_alloc hr (.cells #[.int .i64 0, .int .i64 0, .int .i64 0, .int .i64 0, .int .u32 0, .int .u32 0, .int .i64 0] 62)
  obtain ⟨ad, e, x0, x1, x2, x3, x4, x5, x6⟩ := at_T62 hr1 0 (by omega) (by omega)
  cases e
  simp only [Int.toNat_zero, Nat.zero_mul, addr_zero] at x0 x1 x2 x3 x4 x5 x6
  rw [show rd_T62 (x :: t) 0 = x from rfl] at x0 x1 x2 x3 x4 x5 x6
  have HR := Aside0.mk hr
  have HX := Aside0.mk (show (x :: t)[0]? = some x from rfl)
  have HT := Aside0.mk (show (x :: t).take 1 = [x] from rfl)
  have HLE := Aside0.mk (show ∀ j, j ≤ (x :: t).length → (x :: t).length = t.length + 1 from fun _ _ => rfl)
  have HTK := Aside0.mk (show ∀ j, (x :: t).take (j + 1) = x :: t.take j from fun j => rfl)
  have HGT := Aside0.mk (show ∀ j, (x :: t)[j + 1]? = t[j]? from fun j => rfl)
  generalize hl : x :: t = l at *
  clear hr hr1 hl
  have hn0 : ¬ ((l.length : Int) < 1) := by omega
  have hmx := HM.out
  have BZ := Aside0.mk (blk_new w (.cells #[.int .i64 0, .int .i64 0, .int .i64 0, .int .i64 0, .int .u32 0, .int .u32 0, .int .i64 0] 62))
  have BW := Aside0.mk ((Below.refl w.heap.size w).alloc (Nat.le_refl _) (.cells #[.int .i64 0, .int .i64 0, .int .i64 0, .int .i64 0, .int .u32 0, .int .u32 0, .int .i64 0] 62))
  have HSZ := Aside0.mk (show (w.alloc (.cells #[.int .i64 0, .int .i64 0, .int .i64 0, .int .i64 0, .int .u32 0, .int .u32 0, .int .i64 0] 62)).heap.size = w.heap.size + 1 by simp)
  go_enter Try.func57, Try.ntmps57
  go_wp2_with fail
  generalize (w.alloc (.cells #[.int .i64 0, .int .i64 0, .int .i64 0, .int .i64 0, .int .u32 0, .int .u32 0, .int .i64 0] 62)) = W1 at *
  have BX := Aside0.mk (blk_new W1 (blkR x))
  have BW2 := Aside0.mk (BW.out.alloc BW.out.size (blkR x))
  have BZ2 := Aside0.mk (blk_alloc BZ.out (blkR x))
  rw [HSZ.out] at BX
  clear x0 x1 x2 x3 x4 x5 x6
  go_loopg [6] l.length (fun gg s6 wr => ∃ k : Nat, 1 ≤ k ∧ k ≤ l.length ∧ l.length - k ≤ gg ∧ s6 = .int .i64 k ∧ Aside0 (MinAt (w.heap.size + 1) (least x (t.take (k - 1))) w wr))
  case atStart => exact ⟨1, by omega, by omega, by omega, rfl, ⟨BX.out, BZ2.out, BW2.out⟩⟩
  case round =>
    obtain ⟨k, hk1, hk, hg, rfl, hm⟩ := hrel
    by_cases hlt : k < l.length
    · have hltz : (k : Int) < (l.length : Int) := by omega
      have hk0 : (0 : Int) ≤ (k : Int) := by omega
      obtain ⟨hm1, hm2, hm3⟩ := hm.out
      obtain ⟨ad', e, x0, x1, x2, x3, x4, x5, x6⟩ := at_T62 (Kd.C_below HR.out hm3) (k : Int) (by omega) (by omega)
      cases e
      rw [Int.toNat_natCast] at x0 x1 x2 x3 x4 x5 x6
      have HY := Aside0.mk (show t.take k = t.take (k - 1) ++ [rd_T62 l (k : Int)] from by
        have hk' : k - 1 < t.length := by have := HLE.out k hk; omega
        have h1 := HGT.out (k - 1)
        rw [show k - 1 + 1 = k by omega, List.getElem?_eq_getElem hlt, List.getElem?_eq_getElem hk'] at h1
        have e : rd_T62 l (k : Int) = l[k] := by
          unfold rd_T62
          rw [Int.toNat_natCast, List.getD_eq_getElem?_getD, List.getElem?_eq_getElem hlt]
          rfl
        rw [e, Option.some.inj h1]
        have h2 := List.take_succ_eq_append_getElem hk'
        rw [show k - 1 + 1 = k by omega] at h2
        exact h2)
      have hord := ord_neg (rd_T62 l (k : Int)) (least x (t.take (k - 1)))
      obtain ⟨y, hyd⟩ : ∃ y, rd_T62 l (k : Int) = y := ⟨_, rfl⟩
      rw [hyd] at x0 x1 x2 x3 x4 x5 x6 HY hord
      have HYD := Aside0.mk hyd
      clear hyd
      generalize hle : least x (t.take (k - 1)) = m at *
      have HLS := Aside0.mk (show least x (t.take k) = if aheadR y m = true then y else m from by rw [HY.out, least_snoc, hle])
      have hcall := fun W => ahead_any y m W
      simp only [encR] at hcall
      have c0 : wr.cell? ⟨w.heap.size + 1, 0, none⟩ = some (.int .i64 m.f0) := blk_cell hm1 0
      have c1 : wr.cell? ⟨w.heap.size + 1, 1, none⟩ = some (.int .i64 m.f1) := blk_cell hm1 1
      have c2 : wr.cell? ⟨w.heap.size + 1, 2, none⟩ = some (.int .i64 m.f2) := blk_cell hm1 2
      have c3 : wr.cell? ⟨w.heap.size + 1, 3, none⟩ = some (.int .i64 m.f3) := blk_cell hm1 3
      have c4 : wr.cell? ⟨w.heap.size + 1, 4, none⟩ = some (.int .u32 m.f4.f0) := blk_cell hm1 4
      have c5 : wr.cell? ⟨w.heap.size + 1, 5, none⟩ = some (.int .u32 m.f4.f1) := blk_cell hm1 5
      have c6 : wr.cell? ⟨w.heap.size + 1, 6, none⟩ = some (.int .i64 m.f5) := blk_cell hm1 6
      have HM1 := Aside0.mk hm1
      have HM2 := Aside0.mk hm2
      have HM3 := Aside0.mk hm3
      clear hm1 hm2 hm3 hm hle
      cases hq : aheadR y m with
      | true =>
        rw [hq] at hord HLS
        clear hq
        go_wp2_with fail
        go_still_tail 6, (by kernel_rfl)
        have hr2 := Kd.C_below HR.out (below_drew HM3.out)
        have hm1 := blk_drew HM1.out
        have hm2 := blk_drew HM2.out
        have hb1 := below_drew HM3.out
        rw [show ({ heap := wr.heap, tape := wr.tape, drawn := wr.drawn + 1, os := wr.os, output := wr.output } : World) = wr.drew from rfl]
        generalize wr.drew = wd at *
        clear x0 x1 x2 x3 x4 x5 x6 c0 c1 c2 c3 c4 c5 c6 HM1 HM2 HM3
        go_wp2_with fail
        refine (hcall wd).mono ?_
        rintro e w' ⟨rfl, hb'⟩
        obtain ⟨ad', e, x0, x1, x2, x3, x4, x5, x6⟩ := at_T62 (Kd.C_below hr2 hb') (k : Int) (by omega) (by omega)
        cases e
        rw [Int.toNat_natCast, HYD.out] at x0 x1 x2 x3 x4 x5 x6
        have HM1 := Aside0.mk (blk_below hm1 hb')
        have HM2 := Aside0.mk (blk_below hm2 hb')
        have HM3 := Aside0.mk (hb1.trans (hb'.mono hb1.size))
        have hm1' := HM1.out
        have c0 : w'.cell? ⟨w.heap.size + 1, 0, none⟩ = some (.int .i64 m.f0) := blk_cell hm1' 0
        have c1 : w'.cell? ⟨w.heap.size + 1, 1, none⟩ = some (.int .i64 m.f1) := blk_cell hm1' 1
        have c2 : w'.cell? ⟨w.heap.size + 1, 2, none⟩ = some (.int .i64 m.f2) := blk_cell hm1' 2
        have c3 : w'.cell? ⟨w.heap.size + 1, 3, none⟩ = some (.int .i64 m.f3) := blk_cell hm1' 3
        have c4 : w'.cell? ⟨w.heap.size + 1, 4, none⟩ = some (.int .u32 m.f4.f0) := blk_cell hm1' 4
        have c5 : w'.cell? ⟨w.heap.size + 1, 5, none⟩ = some (.int .u32 m.f4.f1) := blk_cell hm1' 5
        have c6 : w'.cell? ⟨w.heap.size + 1, 6, none⟩ = some (.int .i64 m.f5) := blk_cell hm1' 6
        have f0 := blk_frozen hm1' 0
        have f1 := blk_frozen hm1' 1
        have f2 := blk_frozen hm1' 2
        have f3 := blk_frozen hm1' 3
        have f4 := blk_frozen hm1' 4
        have f5 := blk_frozen hm1' 5
        have f6 := blk_frozen hm1' 6
        have HN1 := Aside0.mk (setCells_rule y hm1')
        have HN2 := Aside0.mk (show (w'.setCells (w.heap.size + 1) 0 (rcells y)).heap[w.heap.size]? = _ from (heap_setCells_ne (by omega) (rcells y) 0 w').trans HM2.out)
        have HN3 := Aside0.mk (below_cells (g := w.heap.size + 1) (by omega) (rcells y) 0 HM3.out)
        clear hm1' hcall hr2 hm1 hm2 hb1 hb' HM1 HM2 HM3
        go_wp2_with fail
        go_roundg (l.length - (k + 1))
        case measure => omega
        case rel => exact ⟨k + 1, by omega, by omega, by omega, by go_num, ⟨by rw [show k + 1 - 1 = k by omega, HLS.out, if_pos (by first | rfl | trivial)]; exact ⟨HN1.out, HN2.out, HN3.out⟩⟩⟩
      | false =>
        rw [hq] at hord HLS
        clear hq
        go_wp2_with fail
        go_still_tail 6, (by kernel_rfl)
        have hm1 := blk_drew HM1.out
        have hm2 := blk_drew HM2.out
        have hb1 := below_drew HM3.out
        rw [show ({ heap := wr.heap, tape := wr.tape, drawn := wr.drawn + 1, os := wr.os, output := wr.output } : World) = wr.drew from rfl]
        generalize wr.drew = wd at *
        clear x0 x1 x2 x3 x4 x5 x6 c0 c1 c2 c3 c4 c5 c6 HM1 HM2 HM3
        go_wp2_with fail
        refine (hcall wd).mono ?_
        rintro e w' ⟨rfl, hb'⟩
        have HM1 := Aside0.mk (blk_below hm1 hb')
        have HM2 := Aside0.mk (blk_below hm2 hb')
        have HM3 := Aside0.mk (hb1.trans (hb'.mono hb1.size))
        clear hcall hm1 hm2 hb1 hb'
        go_wp2_with fail
        go_roundg (l.length - (k + 1))
        case measure => omega
        case rel => exact ⟨k + 1, by omega, by omega, by omega, by go_num, ⟨by rw [show k + 1 - 1 = k by omega, HLS.out, if_neg (by simp)]; exact ⟨HM1.out, HM2.out, HM3.out⟩⟩⟩
    · have hltz : ¬ ((k : Int) < (l.length : Int)) := by omega
      obtain ⟨hm1, hm2, hm3⟩ := hm.out
      rw [show t.take (k - 1) = t from List.take_of_length_le (by have := HLE.out k hk; omega)] at hm1
      obtain ⟨m, hlm⟩ : ∃ m, least x t = m := ⟨_, rfl⟩
      rw [hlm] at hm1
      have HLM := Aside0.mk hlm
      clear hlm
      have c0 : wr.cell? ⟨w.heap.size + 1, 0, none⟩ = some (.int .i64 m.f0) := blk_cell hm1 0
      have c1 : wr.cell? ⟨w.heap.size + 1, 1, none⟩ = some (.int .i64 m.f1) := blk_cell hm1 1
      have c2 : wr.cell? ⟨w.heap.size + 1, 2, none⟩ = some (.int .i64 m.f2) := blk_cell hm1 2
      have c3 : wr.cell? ⟨w.heap.size + 1, 3, none⟩ = some (.int .i64 m.f3) := blk_cell hm1 3
      have c4 : wr.cell? ⟨w.heap.size + 1, 4, none⟩ = some (.int .u32 m.f4.f0) := blk_cell hm1 4
      have c5 : wr.cell? ⟨w.heap.size + 1, 5, none⟩ = some (.int .u32 m.f4.f1) := blk_cell hm1 5
      have c6 : wr.cell? ⟨w.heap.size + 1, 6, none⟩ = some (.int .i64 m.f5) := blk_cell hm1 6
      have z0 : wr.cell? ⟨w.heap.size, 0, none⟩ = some (.int .i64 0) := blk_cell hm2 0
      have z1 : wr.cell? ⟨w.heap.size, 1, none⟩ = some (.int .i64 0) := blk_cell hm2 1
      have z2 : wr.cell? ⟨w.heap.size, 2, none⟩ = some (.int .i64 0) := blk_cell hm2 2
      have z3 : wr.cell? ⟨w.heap.size, 3, none⟩ = some (.int .i64 0) := blk_cell hm2 3
      have z4 : wr.cell? ⟨w.heap.size, 4, none⟩ = some (.int .u32 0) := blk_cell hm2 4
      have z5 : wr.cell? ⟨w.heap.size, 5, none⟩ = some (.int .u32 0) := blk_cell hm2 5
      have z6 : wr.cell? ⟨w.heap.size, 6, none⟩ = some (.int .i64 0) := blk_cell hm2 6
      have f0 := blk_frozen hm2 0
      have f1 := blk_frozen hm2 1
      have f2 := blk_frozen hm2 2
      have f3 := blk_frozen hm2 3
      have f4 := blk_frozen hm2 4
      have f5 := blk_frozen hm2 5
      have f6 := blk_frozen hm2 6
      have hN1 := setCells_rule m hm2
      have HN3 := Aside0.mk (below_cells (g := w.heap.size) (Nat.le_refl _) (rcells m) 0 hm3)
      have e0 := blk_cell hN1 0
      have e1 := blk_cell hN1 1
      have e2 := blk_cell hN1 2
      have e3 := blk_cell hN1 3
      have e4 := blk_cell hN1 4
      have e5 := blk_cell hN1 5
      have e6 := blk_cell hN1 6
      have HE := Aside0.mk (And.intro e0 (And.intro e1 (And.intro e2 (And.intro e3 (And.intro e4 (And.intro e5 e6))))))
      clear hm hm1 hm2 hm3 hN1 e0 e1 e2 e3 e4 e5 e6
      go_wp2_with fail
      obtain ⟨e0, e1, e2, e3, e4, e5, e6⟩ := HE.out
      exact bodyPost_ret (v := encR m) (by
        simp only [rcells, World.setCells] at e0 e1 e2 e3 e4 e5 e6
        simp [results, Try.results57, go_sem, encR, e0, e1, e2, e3, e4, e5, e6]) rfl ⟨by rw [HLM.out], HN3.out⟩
end Go.Proofs.Ytkjighagiecbaaa.H
/-! ### Rul5 -/
namespace Go.Proofs.Ytkjighagiecbaaa.H
open Go.RowKit Go.Proofs.Ytkjighagiecbaaa.P Go.Proofs.YtkjighagiecbaaaW.PrintWords Go.Proofs.YtkjighagiecbaaaW.PrintLast Go.Proofs.YtkjighagiecbaaaW.PrintMore
set_option linter.unusedVariables false
set_option linter.unusedSimpArgs false
set_option maxRecDepth 20000
theorem takes_any (r : Rul) (d a : Int) (w : World) : Calls Try.prog 40 #[encR r, .int .i64 d, .int .u32 a] w fun e w' => e = .returned (.bool (takesS d a r)) ∧ Below w.heap.size w w' := by
  have huR := Try.underlying62
  have huG := Try.underlying60
  simp only [encR]
  unfold takesS
  cases h1 : (r.f1 == d) with
  | false =>
    simp only [Bool.false_and]
    go_enter Try.func40, Try.ntmps40
    go_wp2
    go_ret
    exact ⟨rfl, (Below.refl _ _).alloc (Nat.le_refl _) _⟩
  | true =>
    simp only [Bool.true_and]
    cases h2 : decide (r.f4.f0 ≤ a) with
    | false =>
      simp only [Bool.false_and]
      go_enter Try.func40, Try.ntmps40
      go_wp2
      go_ret
      exact ⟨rfl, (Below.refl _ _).alloc (Nat.le_refl _) _⟩
    | true =>
      simp only [Bool.true_and]
      generalize h3 : decide (a ≤ r.f4.f1) = b3
      go_enter Try.func40, Try.ntmps40
      go_wp2
      go_ret
      exact ⟨rfl, (Below.refl _ _).alloc (Nat.le_refl _) _⟩
theorem deny1_any (b4 b5 : Nat) (d a : Int) (w : World) (h4 : w.heap[b4]? = some (.cells #[.int .i64 d] 3 (0, 0))) (h5 : w.heap[b5]? = some (.cells #[.int .u32 a] 29 (0, 0))) :
    PredB encR (denyP d a) 39 #[.pointer (some ⟨b4, 0, none⟩), .pointer (some ⟨b5, 0, none⟩)] (fun _ => True) w := fun W r _ hb => by
  have huR := Try.underlying62
  have g4 := (blk_alloc (blk_below h4 hb) (.cells #[.int .i64 r.f0, .int .i64 r.f1, .int .i64 r.f2, .int .i64 r.f3, .int .u32 r.f4.f0, .int .u32 r.f4.f1, .int .i64 r.f5] 62))
  have g5 := (blk_alloc (blk_below h5 hb) (.cells #[.int .i64 r.f0, .int .i64 r.f1, .int .i64 r.f2, .int .i64 r.f3, .int .u32 r.f4.f0, .int .u32 r.f4.f1, .int .i64 r.f5] 62))
  have c4 := blk_cell g4 0
  have c5 := blk_cell g5 0
  have ht := takes_any r d a (W.alloc (.cells #[.int .i64 r.f0, .int .i64 r.f1, .int .i64 r.f2, .int .i64 r.f3, .int .u32 r.f4.f0, .int .u32 r.f4.f1, .int .i64 r.f5] 62))
  clear g4 g5 h4 h5 hb
  show Calls Try.prog 39 #[encR r, .pointer (some ⟨b4, 0, none⟩), .pointer (some ⟨b5, 0, none⟩)] W _
  simp only [encR] at ht ⊢
  unfold denyP
  cases h1 : decide (1 < r.f3) with
  | false =>
    simp only [Bool.false_and]
    go_enter Try.func39, Try.ntmps39
    go_wp2
    go_ret
    exact ⟨rfl, (Below.refl _ _).alloc (Nat.le_refl _) _⟩
  | true =>
    simp only [Bool.true_and]
    go_enter Try.func39, Try.ntmps39
    go_wp2_with fail
    refine ht.mono ?_
    rintro e w' ⟨rfl, hb'⟩
    clear ht
    go_wp2_with fail
    go_ret
    exact ⟨rfl, ((Below.refl _ _).alloc (Nat.le_refl _) _).trans (hb'.mono (by simp))⟩
theorem match1_any (b4 b5 : Nat) (d a : Int) (w : World) (h4 : w.heap[b4]? = some (.cells #[.int .i64 d] 3 (0, 0))) (h5 : w.heap[b5]? = some (.cells #[.int .u32 a] 29 (0, 0))) :
    PredB encR (matchP d a) 41 #[.pointer (some ⟨b4, 0, none⟩), .pointer (some ⟨b5, 0, none⟩)] (fun _ => True) w := fun W r _ hb => by
  have huR := Try.underlying62
  have g4 := (blk_alloc (blk_below h4 hb) (.cells #[.int .i64 r.f0, .int .i64 r.f1, .int .i64 r.f2, .int .i64 r.f3, .int .u32 r.f4.f0, .int .u32 r.f4.f1, .int .i64 r.f5] 62))
  have g5 := (blk_alloc (blk_below h5 hb) (.cells #[.int .i64 r.f0, .int .i64 r.f1, .int .i64 r.f2, .int .i64 r.f3, .int .u32 r.f4.f0, .int .u32 r.f4.f1, .int .i64 r.f5] 62))
  have c4 := blk_cell g4 0
  have c5 := blk_cell g5 0
  have ht := takes_any r d a (W.alloc (.cells #[.int .i64 r.f0, .int .i64 r.f1, .int .i64 r.f2, .int .i64 r.f3, .int .u32 r.f4.f0, .int .u32 r.f4.f1, .int .i64 r.f5] 62))
  clear g4 g5 h4 h5 hb
  show Calls Try.prog 41 #[encR r, .pointer (some ⟨b4, 0, none⟩), .pointer (some ⟨b5, 0, none⟩)] W _
  simp only [encR] at ht ⊢
  unfold matchP
  cases h1 : decide (r.f3 ≤ 1) with
  | false =>
    simp only [Bool.false_and]
    go_enter Try.func41, Try.ntmps41
    go_wp2
    go_ret
    exact ⟨rfl, (Below.refl _ _).alloc (Nat.le_refl _) _⟩
  | true =>
    simp only [Bool.true_and]
    go_enter Try.func41, Try.ntmps41
    go_wp2_with fail
    refine ht.mono ?_
    rintro e w' ⟨rfl, hb'⟩
    clear ht
    go_wp2_with fail
    go_ret
    exact ⟨rfl, ((Below.refl _ _).alloc (Nat.le_refl _) _).trans (hb'.mono (by simp))⟩
theorem first1_any (b : Nat) (p : Rul → Bool) (g : Nat) (lb : Array Value) (eg : ∀ args w, (callFunc g args).run Try.prog w = .ok (.enter g args) w) (w0 w : World) (hp : PredB encR p g lb (fun _ => True) w0) (hb0 : Below w0.heap.size w0 w)
    (hb : w.heap[b]? = some (.cells #[.func (.func g) #[] lb] 75 (0, 0))) :
    PredB encR (fun r => !p r) 56 #[.pointer (some ⟨b, 0, none⟩)] (fun _ => True) w := fun W r _ hbW => by
  have huR := Try.underlying62
  have g4 := (blk_alloc (blk_below hb hbW) (.cells #[.int .i64 r.f0, .int .i64 r.f1, .int .i64 r.f2, .int .i64 r.f3, .int .u32 r.f4.f0, .int .u32 r.f4.f1, .int .i64 r.f5] 62))
  have c4 := blk_cell g4 0
  have hcall := hp (W.alloc (.cells #[.int .i64 r.f0, .int .i64 r.f1, .int .i64 r.f2, .int .i64 r.f3, .int .u32 r.f4.f0, .int .u32 r.f4.f1, .int .i64 r.f5] 62)) r trivial (hb0.trans (((Below.refl _ W).alloc (Nat.le_refl _) _ |> fun h => hbW.trans (h.mono hbW.size)).mono hb0.size))
  clear g4 hp hb0 hb hbW
  show Calls Try.prog 56 #[encR r, .pointer (some ⟨b, 0, none⟩)] W _
  simp only [encR] at hcall ⊢
  generalize p r = q at *
  go_enter Try.func56, Try.ntmps56
  go_wp2_with fail
  refine hcall.mono ?_
  rintro e w' ⟨rfl, hb'⟩
  clear hcall
  go_wp2_with fail
  go_ret
  exact ⟨rfl, ((Below.refl _ _).alloc (Nat.le_refl _) _).trans (hb'.mono (by simp))⟩
theorem dfR_nil (c : Nat) (f : Nat) (lb : Array Value) (p : Rul → Bool) (eg : ∀ args w, (callFunc f args).run Try.prog w = .ok (.enter f args) w) (w : World) (hp : PredB encR p f lb (fun _ => True) w) :
    Calls Try.prog 54 #[.slice none 0 c, .func (.func f) #[] lb] w fun e w' => e = .returned (.slice none 0 c) ∧ Below w.heap.size w w' := by
  have hI := idxR_any none c [] p f lb eg w w ⟨rfl, by simp, fun h => absurd h (by simp)⟩ (by simp) hp (Below.refl _ _)
  clear hp
  go_enter Try.func54, Try.ntmps54
  go_wp2_with fail
  refine hI.mono ?_
  rintro e w1 ⟨hd, hb⟩
  rcases hd with ⟨hd, rfl⟩ | ⟨i, y, hi, _⟩
  · clear hI hd
    go_wp2_with fail
    go_ret
    exact ⟨rfl, hb⟩
  · simp at hi
end Go.Proofs.Ytkjighagiecbaaa.H
