/- Rul6, Rul7, Topo4b. -/
import Derived.Test.YtkjighagiecbaaaGRul5
import Derived.Test.YtkjighagiecbaaaGTopo4
/-! ### Rul6 -/
namespace Go.Proofs.Ytkjighagiecbaaa.H
open Go.RowKit Go.Proofs.Ytkjighagiecbaaa.P Go.Proofs.YtkjighagiecbaaaW.PrintWords Go.Proofs.YtkjighagiecbaaaW.PrintLast Go.Proofs.YtkjighagiecbaaaW.PrintMore
set_option linter.unusedVariables false
set_option linter.unusedSimpArgs false
set_option maxRecDepth 20000
def zR : Rul := ⟨0, 0, 0, 0, ⟨0, 0⟩, 0⟩
def FirstAt (o : Option Rul) (B : Nat) (w : World) (e : Ending) (w' : World) : Prop := e = .returned (.tuple #[encR (o.getD zR), .bool o.isSome]) ∧ Below B w w'
theorem firstS_nil {p : Rul → Bool} {l : List Rul} (h : l.filter p = []) : firstS p l = none := by unfold firstS; rw [h]; rfl
theorem firstS_cons {p : Rul → Bool} {l : List Rul} {x : Rul} {t : List Rul} (h : l.filter p = x :: t) : firstS p l = some (least x t) := by unfold firstS; rw [h]; rfl
theorem filter_not_not (p : Rul → Bool) (l : List Rul) : (l.filter fun x => !(fun r => !p r) x) = l.filter p := by simp
set_option maxHeartbeats 4000000 in
theorem first_any (A : Option Addr) (c : Nat) (l : List Rul) (p : Rul → Bool) (g : Nat) (lb : Array Value) (eg : ∀ args w, (callFunc g args).run Try.prog w = .ok (.enter g args) w) (w : World)
    (hr : Kd.C k62 w A l.length l) (hc : l.length ≤ c) (hl : l.length * 48 ≤ 140737488355328) (hp : PredB encR p g lb (fun _ => True) w) :
    Calls Try.prog 38 #[.slice A l.length c, .func (.func g) #[] lb] w fun e w' => FirstAt (firstS p l) w.heap.size w e w' := by
  have huR := Try.underlying62
  have BF := Aside0.mk (blk_alloc (blk_new w (.cells #[.func (.func g) #[] lb] 75)) (.cells #[.int .i64 0, .int .i64 0, .int .i64 0, .int .i64 0, .int .u32 0, .int .u32 0, .int .i64 0] 62))
  have BZ := Aside0.mk (show ((w.alloc (.cells #[.func (.func g) #[] lb] 75)).alloc (.cells #[.int .i64 0, .int .i64 0, .int .i64 0, .int .i64 0, .int .u32 0, .int .u32 0, .int .i64 0] 62)).heap[w.heap.size + 1]? = some (blkR zR) from by
    have h := blk_new (w.alloc (.cells #[.func (.func g) #[] lb] 75)) (.cells #[.int .i64 0, .int .i64 0, .int .i64 0, .int .i64 0, .int .u32 0, .int .u32 0, .int .i64 0] 62)
    rw [World.size_alloc] at h
    exact h)
  have BW := Aside0.mk (((Below.refl w.heap.size w).alloc (Nat.le_refl _) (.cells #[.func (.func g) #[] lb] 75)).alloc (by simp) (.cells #[.int .i64 0, .int .i64 0, .int .i64 0, .int .i64 0, .int .u32 0, .int .u32 0, .int .i64 0] 62))
  have HR1 := Aside0.mk (Kd.C_below hr BW.out)
  have HP1 := Aside0.mk hp
  clear hr hp
  go_enter Try.func38, Try.ntmps38
  go_wp2_with fail
  generalize ((w.alloc (.cells #[.func (.func g) #[] lb] 75)).alloc (.cells #[.int .i64 0, .int .i64 0, .int .i64 0, .int .i64 0, .int .u32 0, .int .u32 0, .int .i64 0] 62)) = W1 at *
  refine (cloneR_any A c l W1 HR1.out hc hl).mono ?_
  rintro e W2 ⟨v, rfl, ho, hb⟩
  have BF2 := Aside0.mk (blk_below BF.out hb)
  have BZ2 := Aside0.mk (blk_below BZ.out hb)
  have BW2 := Aside0.mk (BW.out.trans (hb.mono BW.out.size))
  have HSZ := Aside0.mk hb.size
  have HSZ1 := Aside0.mk (blk_lt BZ.out)
  have hp1 := first1_any w.heap.size p g lb eg w W2 HP1.out BW2.out BF2.out
  have hp2 := first1_any w.heap.size p g lb eg w W1 HP1.out BW.out BF.out
  have HBB := Aside0.mk hb
  unfold OwnR World.ownsRow at ho
  obtain ⟨hlen, hown⟩ := ho
  clear hb
  rcases hown with ⟨rfl, h0⟩ | ⟨q, cap, cs, rfl, hq1, hq2, hq3, hq4, hq5, hq6⟩
  · have hl0 : l = [] := List.eq_nil_of_length_eq_zero h0
    subst hl0
    have E := Aside0.mk (firstS_nil (p := p) (l := []) rfl)
    have hd := dfR_nil 0 56 #[.pointer (some ⟨w.heap.size, 0, none⟩)] (fun r => !p r) (enters' Try.func56 (by kernel_rfl) rfl) W2 hp1
    clear hp1 hp2 hlen h0
    go_wp2_with fail
    refine hd.mono ?_
    rintro e W3 ⟨rfl, hb3⟩
    have hz3 := blk_below BZ2.out hb3
    have HB3 := Aside0.mk (BW2.out.trans (hb3.mono BW2.out.size))
    have z0 : W3.cell? ⟨w.heap.size + 1, 0, none⟩ = some (.int .i64 0) := blk_cell hz3 0
    have z1 : W3.cell? ⟨w.heap.size + 1, 1, none⟩ = some (.int .i64 0) := blk_cell hz3 1
    have z2 : W3.cell? ⟨w.heap.size + 1, 2, none⟩ = some (.int .i64 0) := blk_cell hz3 2
    have z3 : W3.cell? ⟨w.heap.size + 1, 3, none⟩ = some (.int .i64 0) := blk_cell hz3 3
    have z4 : W3.cell? ⟨w.heap.size + 1, 4, none⟩ = some (.int .u32 0) := blk_cell hz3 4
    have z5 : W3.cell? ⟨w.heap.size + 1, 5, none⟩ = some (.int .u32 0) := blk_cell hz3 5
    have z6 : W3.cell? ⟨w.heap.size + 1, 6, none⟩ = some (.int .i64 0) := blk_cell hz3 6
    have f0 := blk_frozen hz3 0
    have f1 := blk_frozen hz3 1
    have f2 := blk_frozen hz3 2
    have f3 := blk_frozen hz3 3
    have f4 := blk_frozen hz3 4
    have f5 := blk_frozen hz3 5
    have f6 := blk_frozen hz3 6
    have HE := Aside0.mk (setCells_rule zR hz3)
    have HN := Aside0.mk (below_cells (g := w.heap.size + 1) (by omega) (rcells zR) 0 HB3.out)
    clear hd hb3 hz3
    go_wp2_with fail
    have k1 := HE.out
    have e0 := blk_cell k1 0
    have e1 := blk_cell k1 1
    have e2 := blk_cell k1 2
    have e3 := blk_cell k1 3
    have e4 := blk_cell k1 4
    have e5 := blk_cell k1 5
    have e6 := blk_cell k1 6
    simp only [rcells, World.setCells, zR] at e0 e1 e2 e3 e4 e5 e6
    exact bodyPost_ret (v := .tuple #[encR zR, .bool false]) (by simp [results, Try.results38, go_sem, encR, zR, e0, e1, e2, e3, e4, e5, e6]) rfl ⟨by rw [E.out]; rfl, HN.out⟩
  · have hd := dfR_any q cap l (fun r => !p r) 56 #[.pointer (some ⟨w.heap.size, 0, none⟩)] (enters' Try.func56 (by kernel_rfl) rfl) W1 W2 cs hq2 (by rw [hq5]; omega) (fun t y ht i u hu => by
      have h1 := rflat_at l t y ht i u hu
      rw [← hq6, List.getElem?_take] at h1
      split at h1
      · rw [Array.getElem?_toList] at h1; exact h1
      · cases h1) hq3 (by have := hq4; unfold maxLen at this; exact this) hp2 HBB.out hq1
    rw [filter_not_not] at hd
    have hld : l.length ≤ cap := hq3
    clear hp1 hp2 hlen hq1 hq2 hq3 hq4 hq5 hq6 hld
    go_wp2_with fail
    refine hd.mono ?_
    rintro e W3 ⟨rfl, hb3, hC3, hle3⟩
    have hz3 := blk_below BZ.out hb3
    have HB3 := Aside0.mk (BW.out.trans (hb3.mono BW.out.size))
    cases hF : l.filter p with
    | nil =>
      have E := Aside0.mk (firstS_nil hF)
      have z0 : W3.cell? ⟨w.heap.size + 1, 0, none⟩ = some (.int .i64 0) := blk_cell hz3 0
      have z1 : W3.cell? ⟨w.heap.size + 1, 1, none⟩ = some (.int .i64 0) := blk_cell hz3 1
      have z2 : W3.cell? ⟨w.heap.size + 1, 2, none⟩ = some (.int .i64 0) := blk_cell hz3 2
      have z3 : W3.cell? ⟨w.heap.size + 1, 3, none⟩ = some (.int .i64 0) := blk_cell hz3 3
      have z4 : W3.cell? ⟨w.heap.size + 1, 4, none⟩ = some (.int .u32 0) := blk_cell hz3 4
      have z5 : W3.cell? ⟨w.heap.size + 1, 5, none⟩ = some (.int .u32 0) := blk_cell hz3 5
      have z6 : W3.cell? ⟨w.heap.size + 1, 6, none⟩ = some (.int .i64 0) := blk_cell hz3 6
      have f0 := blk_frozen hz3 0
      have f1 := blk_frozen hz3 1
      have f2 := blk_frozen hz3 2
      have f3 := blk_frozen hz3 3
      have f4 := blk_frozen hz3 4
      have f5 := blk_frozen hz3 5
      have f6 := blk_frozen hz3 6
      have HE := Aside0.mk (setCells_rule zR hz3)
      have HN := Aside0.mk (below_cells (g := w.heap.size + 1) (by omega) (rcells zR) 0 HB3.out)
      rw [hF] at hC3 hle3
      simp only [hF, List.length_nil] at *
      clear hd hb3 hz3 hF hC3 hle3
      go_wp2_with fail
      have k1 := HE.out
      have e0 := blk_cell k1 0
      have e1 := blk_cell k1 1
      have e2 := blk_cell k1 2
      have e3 := blk_cell k1 3
      have e4 := blk_cell k1 4
      have e5 := blk_cell k1 5
      have e6 := blk_cell k1 6
      simp only [rcells, World.setCells, zR] at e0 e1 e2 e3 e4 e5 e6
      exact bodyPost_ret (v := .tuple #[encR zR, .bool false]) (by simp [results, Try.results38, go_sem, encR, zR, e0, e1, e2, e3, e4, e5, e6]) rfl ⟨by rw [E.out]; rfl, HN.out⟩
    | cons x t =>
      have E := Aside0.mk (firstS_cons hF)
      rw [hF] at hC3 hle3
      simp only [hF] at *
      have hn := minf_any (some ⟨q, 0, none⟩) cap x t W3 hC3
      have hne : (((x :: t).length : Int) == 0) = false := by rw [beq_eq_false_iff_ne]; simp; omega
      have HZ3 := Aside0.mk hz3
      generalize (x :: t).length = L at *
      clear hd hb3 hz3 hF hC3 hle3
      simp only [encR] at hn
      go_wp2_with fail
      refine hn.mono ?_
      rintro e W4 ⟨rfl, hb4⟩
      have hz4 := blk_below HZ3.out hb4
      have HB4 := Aside0.mk (HB3.out.trans (hb4.mono HB3.out.size))
      obtain ⟨m, hm⟩ : ∃ m, least x t = m := ⟨_, rfl⟩
      rw [hm]
      have HM := Aside0.mk hm
      have z0 : W4.cell? ⟨w.heap.size + 1, 0, none⟩ = some (.int .i64 0) := blk_cell hz4 0
      have z1 : W4.cell? ⟨w.heap.size + 1, 1, none⟩ = some (.int .i64 0) := blk_cell hz4 1
      have z2 : W4.cell? ⟨w.heap.size + 1, 2, none⟩ = some (.int .i64 0) := blk_cell hz4 2
      have z3 : W4.cell? ⟨w.heap.size + 1, 3, none⟩ = some (.int .i64 0) := blk_cell hz4 3
      have z4 : W4.cell? ⟨w.heap.size + 1, 4, none⟩ = some (.int .u32 0) := blk_cell hz4 4
      have z5 : W4.cell? ⟨w.heap.size + 1, 5, none⟩ = some (.int .u32 0) := blk_cell hz4 5
      have z6 : W4.cell? ⟨w.heap.size + 1, 6, none⟩ = some (.int .i64 0) := blk_cell hz4 6
      have f0 := blk_frozen hz4 0
      have f1 := blk_frozen hz4 1
      have f2 := blk_frozen hz4 2
      have f3 := blk_frozen hz4 3
      have f4 := blk_frozen hz4 4
      have f5 := blk_frozen hz4 5
      have f6 := blk_frozen hz4 6
      have HE := Aside0.mk (setCells_rule m hz4)
      have HN := Aside0.mk (below_cells (g := w.heap.size + 1) (by omega) (rcells m) 0 HB4.out)
      clear hn hb4 hz4 hm
      go_wp2_with fail
      have k1 := HE.out
      have e0 := blk_cell k1 0
      have e1 := blk_cell k1 1
      have e2 := blk_cell k1 2
      have e3 := blk_cell k1 3
      have e4 := blk_cell k1 4
      have e5 := blk_cell k1 5
      have e6 := blk_cell k1 6
      simp only [rcells, World.setCells] at e0 e1 e2 e3 e4 e5 e6
      exact bodyPost_ret (v := .tuple #[encR m, .bool true]) (by simp [results, Try.results38, go_sem, encR, e0, e1, e2, e3, e4, e5, e6]) rfl ⟨by rw [E.out, HM.out]; rfl, HN.out⟩
end Go.Proofs.Ytkjighagiecbaaa.H
/-! ### Rul7 -/
namespace Go.Proofs.Ytkjighagiecbaaa.H
open Go.RowKit Go.Proofs.Ytkjighagiecbaaa.P Go.Proofs.YtkjighagiecbaaaW.PrintWords Go.Proofs.YtkjighagiecbaaaW.PrintLast Go.Proofs.YtkjighagiecbaaaW.PrintMore
set_option linter.unusedVariables false
set_option linter.unusedSimpArgs false
set_option maxRecDepth 20000
set_option maxHeartbeats 2000000 in
theorem match_any (A : Option Addr) (c : Nat) (l : List Rul) (d a : Int) (w : World) (hr : Kd.C k62 w A l.length l) (hc : l.length ≤ c) (hl : l.length * 48 ≤ 140737488355328) :
    Calls Try.prog 24 #[.slice A l.length c, .int .i64 d, .int .u32 a] w fun e w' => FirstAt (firstS (matchP d a) l) w.heap.size w e w' := by
  have huR := Try.underlying62
  have B4 := Aside0.mk (blk_alloc (blk_alloc (blk_new w (.cells #[.int .i64 d] 3)) (.cells #[.int .u32 a] 29)) (.cells #[.int .i64 0, .int .i64 0, .int .i64 0, .int .i64 0, .int .u32 0, .int .u32 0, .int .i64 0] 62))
  have B5 := Aside0.mk (show (((w.alloc (.cells #[.int .i64 d] 3)).alloc (.cells #[.int .u32 a] 29)).alloc (.cells #[.int .i64 0, .int .i64 0, .int .i64 0, .int .i64 0, .int .u32 0, .int .u32 0, .int .i64 0] 62)).heap[w.heap.size + 1]? = some (.cells #[.int .u32 a] 29 (0, 0)) from by
    have h := blk_alloc (blk_new (w.alloc (.cells #[.int .i64 d] 3)) (.cells #[.int .u32 a] 29)) (.cells #[.int .i64 0, .int .i64 0, .int .i64 0, .int .i64 0, .int .u32 0, .int .u32 0, .int .i64 0] 62)
    rw [World.size_alloc] at h
    exact h)
  have BZ := Aside0.mk (show (((w.alloc (.cells #[.int .i64 d] 3)).alloc (.cells #[.int .u32 a] 29)).alloc (.cells #[.int .i64 0, .int .i64 0, .int .i64 0, .int .i64 0, .int .u32 0, .int .u32 0, .int .i64 0] 62)).heap[w.heap.size + 1 + 1]? = some (blkR zR) from by
    have h := blk_new ((w.alloc (.cells #[.int .i64 d] 3)).alloc (.cells #[.int .u32 a] 29)) (.cells #[.int .i64 0, .int .i64 0, .int .i64 0, .int .i64 0, .int .u32 0, .int .u32 0, .int .i64 0] 62)
    rw [World.size_alloc, World.size_alloc] at h
    exact h)
  have BW := Aside0.mk ((((Below.refl w.heap.size w).alloc (Nat.le_refl _) (.cells #[.int .i64 d] 3)).alloc (by simp) (.cells #[.int .u32 a] 29)).alloc (by simp; omega) (.cells #[.int .i64 0, .int .i64 0, .int .i64 0, .int .i64 0, .int .u32 0, .int .u32 0, .int .i64 0] 62))
  have HR1 := Aside0.mk (Kd.C_below hr BW.out)
  clear hr
  go_enter Try.func24, Try.ntmps24
  go_wp2_with fail
  generalize (((w.alloc (.cells #[.int .i64 d] 3)).alloc (.cells #[.int .u32 a] 29)).alloc (.cells #[.int .i64 0, .int .i64 0, .int .i64 0, .int .i64 0, .int .u32 0, .int .u32 0, .int .i64 0] 62)) = W1 at *
  refine (first_any A c l (matchP d a) 41 #[.pointer (some ⟨w.heap.size, 0, none⟩), .pointer (some ⟨w.heap.size + 1, 0, none⟩)] (enters' Try.func41 (by kernel_rfl) rfl) W1 HR1.out hc hl (match1_any _ _ d a W1 B4.out B5.out)).mono ?_
  rintro e W2 ⟨rfl, hb⟩
  obtain ⟨o, ho⟩ : ∃ o, firstS (matchP d a) l = o := ⟨_, rfl⟩
  rw [ho]
  have HO := Aside0.mk ho
  clear ho
  have hz := blk_below BZ.out hb
  have HB := Aside0.mk (BW.out.trans (hb.mono BW.out.size))
  obtain ⟨m, hm⟩ : ∃ m, o.getD zR = m := ⟨_, rfl⟩
  obtain ⟨b, hbo⟩ : ∃ b, o.isSome = b := ⟨_, rfl⟩
  rw [hm, hbo]
  have HM := Aside0.mk hm
  have HBO := Aside0.mk hbo
  have z0 : W2.cell? ⟨w.heap.size + 1 + 1, 0, none⟩ = some (.int .i64 0) := blk_cell hz 0
  have z1 : W2.cell? ⟨w.heap.size + 1 + 1, 1, none⟩ = some (.int .i64 0) := blk_cell hz 1
  have z2 : W2.cell? ⟨w.heap.size + 1 + 1, 2, none⟩ = some (.int .i64 0) := blk_cell hz 2
  have z3 : W2.cell? ⟨w.heap.size + 1 + 1, 3, none⟩ = some (.int .i64 0) := blk_cell hz 3
  have z4 : W2.cell? ⟨w.heap.size + 1 + 1, 4, none⟩ = some (.int .u32 0) := blk_cell hz 4
  have z5 : W2.cell? ⟨w.heap.size + 1 + 1, 5, none⟩ = some (.int .u32 0) := blk_cell hz 5
  have z6 : W2.cell? ⟨w.heap.size + 1 + 1, 6, none⟩ = some (.int .i64 0) := blk_cell hz 6
  have f0 := blk_frozen hz 0
  have f1 := blk_frozen hz 1
  have f2 := blk_frozen hz 2
  have f3 := blk_frozen hz 3
  have f4 := blk_frozen hz 4
  have f5 := blk_frozen hz 5
  have f6 := blk_frozen hz 6
  have HE := Aside0.mk (setCells_rule m hz)
  have HN := Aside0.mk (below_cells (g := w.heap.size + 1 + 1) (by omega) (rcells m) 0 HB.out)
  clear hb hz hm hbo
  simp only [encR]
  go_wp2_with fail
  have k1 := HE.out
  have e0 := blk_cell k1 0
  have e1 := blk_cell k1 1
  have e2 := blk_cell k1 2
  have e3 := blk_cell k1 3
  have e4 := blk_cell k1 4
  have e5 := blk_cell k1 5
  have e6 := blk_cell k1 6
  simp only [rcells, World.setCells] at e0 e1 e2 e3 e4 e5 e6
  exact bodyPost_ret (v := .tuple #[encR m, .bool b]) (by simp [results, Try.results24, go_sem, encR, e0, e1, e2, e3, e4, e5, e6]) rfl ⟨by rw [HO.out, HM.out, HBO.out], HN.out⟩
theorem denied_val (l : List Rul) (a d : Int) : deniedS denyP l a d = ((firstS (denyP d a) l).isSome && ((firstS (denyP d a) l).getD zR).f3 == 3) := by
  unfold deniedS
  cases firstS (denyP d a) l <;> rfl
set_option maxHeartbeats 2000000 in
theorem denies_any (A : Option Addr) (c : Nat) (l : List Rul) (d a : Int) (w : World) (hr : Kd.C k62 w A l.length l) (hc : l.length ≤ c) (hl : l.length * 48 ≤ 140737488355328) :
    Calls Try.prog 23 #[.slice A l.length c, .int .i64 d, .int .u32 a] w fun e w' => e = .returned (.bool (deniedS denyP l a d)) ∧ Below w.heap.size w w' := by
  have huR := Try.underlying62
  have B4 := Aside0.mk (blk_alloc (blk_new w (.cells #[.int .i64 d] 3)) (.cells #[.int .u32 a] 29))
  have B5 := Aside0.mk (show ((w.alloc (.cells #[.int .i64 d] 3)).alloc (.cells #[.int .u32 a] 29)).heap[w.heap.size + 1]? = some (.cells #[.int .u32 a] 29 (0, 0)) from by
    have h := (blk_new (w.alloc (.cells #[.int .i64 d] 3)) (.cells #[.int .u32 a] 29))
    rw [World.size_alloc] at h
    exact h)
  have BW := Aside0.mk (((Below.refl w.heap.size w).alloc (Nat.le_refl _) (.cells #[.int .i64 d] 3)).alloc (by simp) (.cells #[.int .u32 a] 29))
  have HR1 := Aside0.mk (Kd.C_below hr BW.out)
  have HV := Aside0.mk (denied_val l a d)
  clear hr
  go_enter Try.func23, Try.ntmps23
  go_wp2_with fail
  generalize ((w.alloc (.cells #[.int .i64 d] 3)).alloc (.cells #[.int .u32 a] 29)) = W1 at *
  refine (first_any A c l (denyP d a) 39 #[.pointer (some ⟨w.heap.size, 0, none⟩), .pointer (some ⟨w.heap.size + 1, 0, none⟩)] (enters' Try.func39 (by kernel_rfl) rfl) W1 HR1.out hc hl (deny1_any _ _ d a W1 B4.out B5.out)).mono ?_
  rintro e W2 ⟨rfl, hb⟩
  obtain ⟨o, ho⟩ : ∃ o, firstS (denyP d a) l = o := ⟨_, rfl⟩
  rw [ho] at HV
  rw [ho]
  clear ho
  have HB := Aside0.mk (BW.out.trans (hb.mono BW.out.size))
  obtain ⟨m, hm⟩ : ∃ m, o.getD zR = m := ⟨_, rfl⟩
  obtain ⟨b, hbo⟩ : ∃ b, o.isSome = b := ⟨_, rfl⟩
  rw [hm, hbo] at HV
  rw [hm, hbo]
  clear hb hm hbo
  simp only [encR]
  cases b with
  | false =>
    go_wp2_with fail
    go_ret
    exact ⟨by rw [HV.out]; rfl, HB.out.alloc HB.out.size _⟩
  | true =>
    generalize hq : (m.f3 == 3) = q at *
    go_wp2_with fail
    go_ret
    exact ⟨by rw [HV.out]; rfl, HB.out.alloc HB.out.size _⟩
end Go.Proofs.Ytkjighagiecbaaa.H
/-! ### Topo4b -/
namespace Go.Proofs.Ytkjighagiecbaaa.H
open Go.RowKit Go.Proofs.Ytkjighagiecbaaa.P Go.Proofs.YtkjighagiecbaaaW.PrintWords Go.Proofs.YtkjighagiecbaaaW.PrintLast Go.Proofs.YtkjighagiecbaaaW.PrintMore
set_option linter.unusedVariables false
set_option linter.unusedSimpArgs false
set_option maxHeartbeats 1000000 in
theorem refHas_any (A0 : Option Addr) (c0 : Nat) (l0 : List Int) (V1 : Value) (p : S33) (w : World) (hr0 : Kd.C (Kd.int .i64) w A0 l0.length l0) (hv1 : V1.oneCell' = true) :
    Calls Try.prog 43 #[.agg #[.slice A0 l0.length c0, V1], encP p] w fun e w' => e = .returned (.bool (hasB l0 p)) ∧ Below w.heap.size w w' := by
  have huTop := Try.underlying25
  have hu33 := Try.underlying33
  obtain ⟨p0, p1⟩ := p
  have HR := Aside0.mk hr0
  have hmax := Kd.C_max hr0
  clear hr0
  simp only [encP]
  by_cases h1 : 0 ≤ p0
  · by_cases h2 : p0 < (l0.length : Int)
    · obtain ⟨ad, e, x0⟩ := (Kd.reads_of_C (d := (0 : Int)) HR.out).at_ p0 h1 h2
      cases e
      by_cases h3 : 0 ≤ p1
      · skip
        have E : Aside0 (hasB l0 ⟨p0, p1⟩ = decide (p1 < rdOf 0 l0 p0)) := ⟨by simp [hasB, h1, h2, h3]⟩
        rw [E.out]
        have d0 : decide (0 ≤ p0) = true := by simpa using h1
        have d1 : decide (p0 < (l0.length : Int)) = true := by simpa using h2
        have d2 : decide (0 ≤ p1) = true := by simpa using h3
        generalize rdOf 0 l0 p0 = q at *
        go_enter Try.func43, Try.ntmps43
        go_wp2
        have hB : Below w.heap.size w ((w.alloc (Obj.cells #[Value.slice (some ad) l0.length c0, V1] 25)).alloc (Obj.cells #[Value.int .i64 p0, Value.int .i64 p1] 33)) := ((Below.refl _ _).alloc (Nat.le_refl _) _).alloc (by simp) _
        have x1 := pw_cell_below hB x0
        have HB := Aside0.mk hB
        clear hB
        go_quiet (fail)
        go_wp2
        go_ret
        exact ⟨rfl, pw_below_drewN HB.out _⟩
      · have nh3 := h3
        have E : Aside0 (hasB l0 ⟨p0, p1⟩ = false) := ⟨by simp [hasB, h1, h2, nh3]⟩
        rw [E.out]
        have d0 : decide (0 ≤ p0) = true := by simpa using h1
        have d1 : decide (p0 < (l0.length : Int)) = true := by simpa using h2
        have d2 : decide (0 ≤ p1) = false := by simpa using nh3
        go_enter Try.func43, Try.ntmps43
        go_wp2
        have hB : Below w.heap.size w ((w.alloc (Obj.cells #[Value.slice (some ad) l0.length c0, V1] 25)).alloc (Obj.cells #[Value.int .i64 p0, Value.int .i64 p1] 33)) := ((Below.refl _ _).alloc (Nat.le_refl _) _).alloc (by simp) _
        have HB := Aside0.mk hB
        clear hB
        go_quiet (fail)
        go_wp2
        go_ret
        exact ⟨rfl, pw_below_drewN HB.out _⟩
    · have nh2 := h2
      have E : Aside0 (hasB l0 ⟨p0, p1⟩ = false) := ⟨by simp [hasB, h1, nh2]⟩
      rw [E.out]
      have d0 : decide (0 ≤ p0) = true := by simpa using h1
      have d1 : decide (p0 < (l0.length : Int)) = false := by simpa using nh2
      go_enter Try.func43, Try.ntmps43
      go_wp2
      have hB : Below w.heap.size w ((w.alloc (Obj.cells #[Value.slice A0 l0.length c0, V1] 25)).alloc (Obj.cells #[Value.int .i64 p0, Value.int .i64 p1] 33)) := ((Below.refl _ _).alloc (Nat.le_refl _) _).alloc (by simp) _
      have HB := Aside0.mk hB
      clear hB
      go_quiet (fail)
      go_wp2
      go_ret
      exact ⟨rfl, pw_below_drewN HB.out _⟩
  · have nh1 := h1
    have E : Aside0 (hasB l0 ⟨p0, p1⟩ = false) := ⟨by simp [hasB, nh1]⟩
    rw [E.out]
    have d0 : decide (0 ≤ p0) = false := by simpa using nh1
    go_enter Try.func43, Try.ntmps43
    go_wp2
    have hB : Below w.heap.size w ((w.alloc (Obj.cells #[Value.slice A0 l0.length c0, V1] 25)).alloc (Obj.cells #[Value.int .i64 p0, Value.int .i64 p1] 33)) := ((Below.refl _ _).alloc (Nat.le_refl _) _).alloc (by simp) _
    have HB := Aside0.mk hB
    clear hB
    go_quiet (fail)
    go_wp2
    go_ret
    exact ⟨rfl, pw_below_drewN HB.out _⟩
end Go.Proofs.Ytkjighagiecbaaa.H
