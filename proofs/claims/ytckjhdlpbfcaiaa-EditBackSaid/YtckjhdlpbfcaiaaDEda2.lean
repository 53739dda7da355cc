/- Eda2. -/
import Derived.Test.YtckjhdlpbfcaiaaDBx1
import Derived.Deep.LoopGhost
namespace Go.Proofs.Ytckjhdlpbfcaiaa.H
open Go.RowKit Go.Proofs.Ytckjhdlpbfcaiaa.P Go.Proofs.YtckjhdlpbfcaiaaW.PrintWords Go.Proofs.YtckjhdlpbfcaiaaW.PrintLast Go.Proofs.YtckjhdlpbfcaiaaW.PrintMore
set_option linter.unusedVariables false
set_option linter.unusedSimpArgs false
set_option maxRecDepth 20000
theorem enters' {f : FuncId} {fn : Func} {c : Code} (hf : Try.prog.funcs[f]? = some fn) (hname : (fn.name == "runtime.NumGoroutine") = false) (hb : fn.body = some c) : ∀ args w, (callFunc f args).run Try.prog w = .ok (.enter f args) w := by
  intro args w
  have h1 : fn.name ≠ "runtime.NumGoroutine" := by simpa using hname
  simp [callFunc, hf, h1, hb, go_sem]
def cmpI (x y : Int) : Int := if x < y then -1 else if x > y then 1 else 0
theorem cmp_any (x y : Int) (w : World) : Calls Try.prog 33 #[.int .i64 x, .int .i64 y] w fun e w' => e = .returned (.int .i64 (cmpI x y)) ∧ Below w.heap.size w w' := by
  refine (B.cmp_Compare_int.calls x y (cmpI x y) w ?_).mono ?_
  · unfold B.cmp_Compare_int.f B.cmp_isNaN_int.f cmpI
    simp only [bne_self_eq_false, Option.bind_some, Bool.false_eq_true, if_false]
    by_cases h1 : x < y
    · simp [h1]
    · by_cases h2 : x > y
      · simp [h1, h2]
      · simp [h1, h2]
  · rintro e w' ⟨rfl, nd, rfl⟩
    exact ⟨rfl, pw_below_drewN (Below.refl _ _) nd⟩
def CmpB (g : Nat) : Prop := ∀ (x : Rul) (id : Int) (W : World), Calls Try.prog g #[encR x, .int .i64 id] W fun e w' => e = .returned (.int .i64 (cmpI x.f0 id)) ∧ Below W.heap.size W w'
theorem cmpAt : CmpB 50 := by
  intro x id w
  unfold encR
  have HB := Aside0.mk ((Below.refl w.heap.size w).alloc (Nat.le_refl _) (.cells #[.int .i64 x.f0, .int .i64 x.f1, .int .i64 x.f2, .int .i64 x.f3, .int .u32 x.f4.f0, .int .u32 x.f4.f1, .int .i64 x.f5] 35))
  have c0 := blk_cell (blk_new w (.cells #[.int .i64 x.f0, .int .i64 x.f1, .int .i64 x.f2, .int .i64 x.f3, .int .u32 x.f4.f0, .int .u32 x.f4.f1, .int .i64 x.f5] 35)) 0
  have hu := Try.underlying35
  go_enter Try.func50, Try.ntmps50
  go_wp2_with fail
  refine (cmp_any _ _ _).mono ?_
  rintro e w' ⟨rfl, hb⟩
  have HB2 := Aside0.mk (HB.out.trans (hb.mono HB.out.size))
  clear hb c0
  go_wp2_with fail
  go_ret
  exact ⟨rfl, HB2.out⟩
def bsGo (l : List Rul) (id : Int) : Nat → Nat → Nat → Nat
  | 0, i, _ => i
  | k + 1, i, j => if i < j then (if (rd_T35 l (((i + j) / 2 : Nat) : Int)).f0 < id then bsGo l id k ((i + j) / 2 + 1) j else bsGo l id k i ((i + j) / 2)) else i
theorem bsGo_fuel (l : List Rul) (id : Int) : ∀ (k k' i j : Nat), j - i ≤ k → j - i ≤ k' → bsGo l id k i j = bsGo l id k' i j
  | 0, 0, _, _, _, _ => rfl
  | 0, k' + 1, i, j, h, _ => by rw [bsGo, bsGo, if_neg (by omega)]
  | k + 1, 0, i, j, _, h => by rw [bsGo, bsGo, if_neg (by omega)]
  | k + 1, k' + 1, i, j, h, h' => by
    rw [bsGo, bsGo]
    split
    · split
      · exact bsGo_fuel l id k k' _ _ (by omega) (by omega)
      · exact bsGo_fuel l id k k' _ _ (by omega) (by omega)
    · rfl
def bsI (l : List Rul) (id : Int) : Nat := bsGo l id l.length 0 l.length
def bsF (l : List Rul) (id : Int) : Bool := decide (bsI l id < l.length) && ((rd_T35 l ((bsI l id : Nat) : Int)).f0 == id)
theorem bsGo_step (l : List Rul) (id : Int) {i j : Nat} (h : i < j) : bsGo l id (j - i) i j = if (rd_T35 l (((i + j) / 2 : Nat) : Int)).f0 < id then bsGo l id (j - ((i + j) / 2 + 1)) ((i + j) / 2 + 1) j else bsGo l id ((i + j) / 2 - i) i ((i + j) / 2) := by
  obtain ⟨k, hk⟩ : ∃ k, j - i = k + 1 := ⟨j - i - 1, by omega⟩
  rw [hk, bsGo, if_pos h]
  split
  · exact bsGo_fuel l id _ _ _ _ (by omega) (by omega)
  · exact bsGo_fuel l id _ _ _ _ (by omega) (by omega)
theorem bsGo_end (l : List Rul) (id : Int) {i j : Nat} (h : ¬ i < j) : bsGo l id (j - i) i j = i := by
  rw [show j - i = 0 by omega, bsGo]
theorem u64_w09 (x : Int) : IntKind.u64.wrap x = x % 18446744073709551616 := by rw [IntKind.wrap_u64]
set_option maxHeartbeats 4000000 in
theorem bsf_any (A : Option Addr) (c : Nat) (l : List Rul) (id : Int) (g : Nat) (eg : ∀ args w, (callFunc g args).run Try.prog w = .ok (.enter g args) w) (w : World)
    (hr : Kd.C k35 w A l.length l) (hl : l.length * 48 ≤ 140737488355328) (hg : CmpB g) :
    Calls Try.prog 31 #[.slice A l.length c, .int .i64 id, .func (.func g) #[] #[]] w fun e w' => e = .returned (.tuple #[.int .i64 (bsI l id : Nat), .bool (bsF l id)]) ∧ Below w.heap.size w w' := by
  have HR := Aside0.mk hr
  have HC := Aside0.mk hg
  have HL := Aside0.mk hl
  have HI := Aside0.mk (show bsGo l id (l.length - 0) 0 l.length = bsI l id from rfl)
  clear hr hg hl
  go_enter Try.func31, Try.ntmps31
  go_wp2
  go_loopw [9, 10] (fun s9 s10 wr => ∃ (i j : Nat), s9 = .int .i64 i ∧ s10 = .int .i64 j ∧ i ≤ j ∧ j ≤ l.length ∧ Aside0 (bsGo l id (j - i) i j = bsI l id) ∧ Aside0 (Below w.heap.size w wr)) (fun s9 s10 _ => (intOf s10).toNat - (intOf s9).toNat)
  case atStart => exact ⟨0, l.length, rfl, rfl, Nat.zero_le _, Nat.le_refl _, HI, ⟨Below.refl _ w⟩⟩
  case round =>
    obtain ⟨i, j, rfl, rfl, hij, hjl, HG, HB⟩ := hrel
    by_cases hlt : i < j
    · have hltz : (i : Int) < (j : Int) := by omega
      have HST := Aside0.mk (bsGo_step l id hlt)
      obtain ⟨h, hh⟩ : ∃ h, (i + j) / 2 = h := ⟨_, rfl⟩
      have HHH := Aside0.mk hh
      rw [hh] at HST
      have hb1 : i ≤ h ∧ h < j := by omega
      obtain ⟨ad, e, x0, x1, x2, x3, x4, x5, x6⟩ := at_T35 (Kd.C_below HR.out HB.out) (h : Int) (by omega) (by omega)
      cases e
      rw [Int.toNat_natCast] at x0 x1 x2 x3 x4 x5 x6
      generalize rd_T35 l (h : Int) = y at *
      have hcall := HC.out y id wr
      unfold encR at hcall
      have HLB := Aside0.mk (show i + j < 9223372036854775807 from by have := HL.out; omega)
      have hw0 : wrap64 ((i : Int) + (j : Int)) = (i : Int) + (j : Int) := by have := HLB.out; unfold wrap64; omega
      have hw1 : IntKind.i64.wrap ((i : Int) + (j : Int)) = (i : Int) + (j : Int) := by rw [i64_w]; exact hw0
      have hw2 : IntKind.u64.wrap ((i : Int) + (j : Int)) = (i : Int) + (j : Int) := by have := HLB.out; rw [u64_w09]; omega
      have hw3 : wrap64 (((i : Int) + (j : Int)) / 2) = (h : Int) := by have := HLB.out; unfold wrap64; omega
      have hhl : (h : Int) < (l.length : Int) := by omega
      clear hh
      have hwh : wrap64 ((h : Int) + 1) = ((h + 1 : Nat) : Int) := by have := HLB.out; unfold wrap64; omega
      by_cases hy : y.f0 < id
      · have hv : cmpI y.f0 id = -1 := by unfold cmpI; rw [if_pos hy]
        have HG2 := Aside0.mk (show bsGo l id (j - (h + 1)) (h + 1) j = bsI l id from by have h2 := HST.out; rw [if_pos hy, HG.out] at h2; exact h2.symm)
        rw [hv] at hcall
        clear hy hv HST
        go_wp2_with fail
        refine hcall.mono ?_
        rintro e w2 ⟨rfl, hb⟩
        have HB2 := Aside0.mk (HB.out.trans (hb.mono HB.out.size))
        clear hb hcall x0 x1 x2 x3 x4 x5 x6
        go_wp2_with fail
        go_roundw
        case rel => exact ⟨h + 1, j, by first | rfl | (rw [hw3]; rw [hwh]) | rw [hwh] | go_num, rfl, by omega, hjl, HG2, HB2⟩
        case measure => (try rw [hw3]); (try rw [hwh]); simp only [intOf]; omega
      · have hv : ¬ cmpI y.f0 id < 0 := by unfold cmpI; rw [if_neg hy]; split <;> omega
        have HG2 := Aside0.mk (show bsGo l id (h - i) i h = bsI l id from by have h2 := HST.out; rw [if_neg hy, HG.out] at h2; exact h2.symm)
        generalize cmpI y.f0 id = v0 at *
        clear hy HST
        go_wp2_with fail
        refine hcall.mono ?_
        rintro e w2 ⟨rfl, hb⟩
        have HB2 := Aside0.mk (HB.out.trans (hb.mono HB.out.size))
        clear hb hcall x0 x1 x2 x3 x4 x5 x6
        go_wp2_with fail
        go_roundw
        case rel => exact ⟨i, h, rfl, by first | rfl | rw [hw3] | go_num, hb1.1, by omega, HG2, HB2⟩
        case measure => (try rw [hw3]); simp only [intOf]; omega
    · have hltz : ¬ (i : Int) < (j : Int) := by omega
      have HE := Aside0.mk (show bsI l id = i from by rw [← HG.out, bsGo_end l id hlt])
      have HF := Aside0.mk (show bsF l id = (decide (i < l.length) && ((rd_T35 l ((i : Nat) : Int)).f0 == id)) from by unfold bsF; rw [HE.out])
      have HJ := HB
      by_cases hil : i < l.length
      · have hilz : (i : Int) < (l.length : Int) := by omega
        obtain ⟨ad, e, x0, x1, x2, x3, x4, x5, x6⟩ := at_T35 (Kd.C_below HR.out HB.out) (i : Int) (by omega) (by omega)
        cases e
        rw [Int.toNat_natCast] at x0 x1 x2 x3 x4 x5 x6
        generalize rd_T35 l (i : Int) = y at *
        have hcall := HC.out y id wr
        unfold encR at hcall
        have HV := Aside0.mk (show (cmpI y.f0 id == 0) = (y.f0 == id) from by
          unfold cmpI
          by_cases h1 : y.f0 < id
          · rw [if_pos h1, show (y.f0 == id) = false from by rw [beq_eq_false_iff_ne]; omega]; rfl
          · by_cases h2 : y.f0 > id
            · rw [if_neg h1, if_pos h2, show (y.f0 == id) = false from by rw [beq_eq_false_iff_ne]; omega]; rfl
            · rw [if_neg h1, if_neg h2, show (y.f0 == id) = true from by rw [beq_iff_eq]; omega]; rfl)
        have HIL := Aside0.mk hil
        clear hil
        go_wp2_with fail
        refine hcall.mono ?_
        rintro e w2 ⟨rfl, hb⟩
        have HB2 := Aside0.mk (HB.out.trans (hb.mono HB.out.size))
        clear hb hcall x0 x1 x2 x3 x4 x5 x6
        go_wp2_with fail
        go_ret2
        exact ⟨by rw [HE.out, HF.out, decide_eq_true HIL.out, Bool.true_and, HV.out]; rfl, HB2.out⟩
      · have hilz : ¬ (i : Int) < (l.length : Int) := by omega
        have HIL := Aside0.mk hil
        clear hil
        go_wp2_with fail
        go_ret2
        exact ⟨by rw [HE.out, HF.out, decide_eq_false HIL.out, Bool.false_and]; rfl, HB.out⟩
theorem at_any (A : Option Addr) (c : Nat) (l : List Rul) (id : Int) (w : World) (hr : Kd.C k35 w A l.length l) (hl : l.length * 48 ≤ 140737488355328) :
    Calls Try.prog 37 #[.slice A l.length c, .int .i64 id] w fun e w' => e = .returned (.tuple #[.int .i64 (bsI l id : Nat), .bool (bsF l id)]) ∧ Below w.heap.size w w' := by
  have hc := bsf_any A c l id 50 (enters' Try.func50 (by kernel_rfl) rfl) w hr hl cmpAt
  go_enter Try.func37, Try.ntmps37
  go_wp2_with fail
  refine hc.mono ?_
  rintro e w' ⟨rfl, hb⟩
  clear hc hr hl
  go_wp2_with fail
  go_ret2
  exact ⟨rfl, hb⟩
theorem cmpFind : CmpB 32 := by
  intro x id w
  unfold encR
  have HB := Aside0.mk ((Below.refl w.heap.size w).alloc (Nat.le_refl _) (.cells #[.int .i64 x.f0, .int .i64 x.f1, .int .i64 x.f2, .int .i64 x.f3, .int .u32 x.f4.f0, .int .u32 x.f4.f1, .int .i64 x.f5] 35))
  have c0 := blk_cell (blk_new w (.cells #[.int .i64 x.f0, .int .i64 x.f1, .int .i64 x.f2, .int .i64 x.f3, .int .u32 x.f4.f0, .int .u32 x.f4.f1, .int .i64 x.f5] 35)) 0
  have hu := Try.underlying35
  go_enter Try.func32, Try.ntmps32
  go_wp2_with fail
  refine (cmp_any _ _ _).mono ?_
  rintro e w' ⟨rfl, hb⟩
  have HB2 := Aside0.mk (HB.out.trans (hb.mono HB.out.size))
  clear hb c0
  go_wp2_with fail
  go_ret
  exact ⟨rfl, HB2.out⟩
def zR : Rul := ⟨0, 0, 0, 0, ⟨0, 0⟩, 0⟩
def findR (l : List Rul) (id : Int) : Rul := if bsF l id = true then rd_T35 l ((bsI l id : Nat) : Int) else z35
theorem bsF_lt {l : List Rul} {id : Int} (h : bsF l id = true) : bsI l id < l.length := by
  unfold bsF at h
  rw [Bool.and_eq_true, decide_eq_true_iff] at h
  exact h.1
theorem find_any (A : Option Addr) (c : Nat) (l : List Rul) (id : Int) (w : World) (hr : Kd.C k35 w A l.length l) (hl : l.length * 48 ≤ 140737488355328) :
    Calls Try.prog 15 #[.slice A l.length c, .int .i64 id] w fun e w' => e = .returned (.tuple #[encR (findR l id), .bool (bsF l id)]) ∧ Below w.heap.size w w' := by
  have hu := Try.underlying35
  have hc := bsf_any A c l id 32 (enters' Try.func32 (by kernel_rfl) rfl) (w.alloc (.cells #[.int .i64 0, .int .i64 0, .int .i64 0, .int .i64 0, .int .u32 0, .int .u32 0, .int .i64 0] 35)) (Kd.C_below hr ((Below.refl _ w).alloc (Nat.le_refl _) _)) hl cmpFind
  have HR := Aside0.mk hr
  have HB := Aside0.mk ((Below.refl w.heap.size w).alloc (Nat.le_refl _) (.cells #[.int .i64 0, .int .i64 0, .int .i64 0, .int .i64 0, .int .u32 0, .int .u32 0, .int .i64 0] 35))
  have HK := Aside0.mk (blk_new w (.cells #[.int .i64 0, .int .i64 0, .int .i64 0, .int .i64 0, .int .u32 0, .int .u32 0, .int .i64 0] 35))
  clear hr hl
  go_enter Try.func15, Try.ntmps15
  go_wp2_with fail
  refine hc.mono ?_
  rintro e w2 ⟨rfl, hb⟩
  have HB2 := Aside0.mk (HB.out.trans (hb.mono HB.out.size))
  have hk := blk_below HK.out hb
  clear hc hb
  have z0 : w2.cell? ⟨w.heap.size, 0, none⟩ = some (.int .i64 0) := blk_cell hk 0
  have z1 : w2.cell? ⟨w.heap.size, 1, none⟩ = some (.int .i64 0) := blk_cell hk 1
  have z2 : w2.cell? ⟨w.heap.size, 2, none⟩ = some (.int .i64 0) := blk_cell hk 2
  have z3 : w2.cell? ⟨w.heap.size, 3, none⟩ = some (.int .i64 0) := blk_cell hk 3
  have z4 : w2.cell? ⟨w.heap.size, 4, none⟩ = some (.int .u32 0) := blk_cell hk 4
  have z5 : w2.cell? ⟨w.heap.size, 5, none⟩ = some (.int .u32 0) := blk_cell hk 5
  have z6 : w2.cell? ⟨w.heap.size, 6, none⟩ = some (.int .i64 0) := blk_cell hk 6
  have f0 := blk_frozen hk 0
  have f1 := blk_frozen hk 1
  have f2 := blk_frozen hk 2
  have f3 := blk_frozen hk 3
  have f4 := blk_frozen hk 4
  have f5 := blk_frozen hk 5
  have f6 := blk_frozen hk 6
  cases hq : bsF l id with
  | false =>
    have HE := Aside0.mk (setCells_rule (m := zR) zR hk)
    have HN := Aside0.mk (below_cells (g := w.heap.size) (by omega) (rcells zR) 0 HB2.out)
    have HQ := Aside0.mk hq
    clear hq hk
    go_wp2_with fail
    have k1 := HE.out
    have e0 := blk_cell k1 0
    have e1 := blk_cell k1 1
    have e2 := blk_cell k1 2
    have e3 := blk_cell k1 3
    have e4 := blk_cell k1 4
    have e5 := blk_cell k1 5
    have e6 := blk_cell k1 6
    simp only [rcells, World.setCells, zR] at e0 e1 e2 e3 e4 e5 e6
    exact bodyPost_ret (v := .tuple #[encR zR, .bool false]) (by simp [results, Try.results15, go_sem, encR, zR, e0, e1, e2, e3, e4, e5, e6]) rfl ⟨by unfold findR; rw [HQ.out]; rfl, HN.out⟩
  | true =>
    have HQ := Aside0.mk hq
    have hlt := bsF_lt hq
    have HFR := Aside0.mk (show findR l id = rd_T35 l ((bsI l id : Nat) : Int) from by unfold findR; rw [if_pos hq])
    generalize hi : bsI l id = i at *
    obtain ⟨ad, e, x0, x1, x2, x3, x4, x5, x6⟩ := at_T35 (Kd.C_below HR.out HB2.out) (i : Int) (by omega) (by omega)
    cases e
    rw [Int.toNat_natCast] at x0 x1 x2 x3 x4 x5 x6
    generalize rd_T35 l (i : Int) = m at *
    have hiz : (i : Int) < (l.length : Int) := by omega
    have HE := Aside0.mk (setCells_rule (m := zR) m hk)
    have HN := Aside0.mk (below_cells (g := w.heap.size) (by omega) (rcells m) 0 HB2.out)
    clear hq hi hlt hk
    go_wp2_with fail
    have k1 := HE.out
    have e0 := blk_cell k1 0
    have e1 := blk_cell k1 1
    have e2 := blk_cell k1 2
    have e3 := blk_cell k1 3
    have e4 := blk_cell k1 4
    have e5 := blk_cell k1 5
    have e6 := blk_cell k1 6
    simp only [rcells, World.setCells] at e0 e1 e2 e3 e4 e5 e6
    exact bodyPost_ret (v := .tuple #[encR m, .bool true]) (by simp [results, Try.results15, go_sem, encR, e0, e1, e2, e3, e4, e5, e6]) rfl ⟨by rw [HFR.out, HQ.out], HN.out⟩
end Go.Proofs.Ytckjhdlpbfcaiaa.H
