import Derived.Test.YtglfpobapkkgdaaTopo5
import Derived.Test.YtglfpobapkkgdaaTopoG
namespace Go.Proofs.Ytglfpobapkkgdaa.H
open Go.RowKit Go.Proofs.Ytglfpobapkkgdaa.P Go.Proofs.YtglfpobapkkgdaaW.PrintWords Go.Proofs.YtglfpobapkkgdaaW.PrintLast Go.Proofs.YtglfpobapkkgdaaW.PrintMore
set_option linter.unusedVariables false
set_option linter.unusedSimpArgs false
/-- All but block k is as it was; there may be more. -/
structure GrewK (w w' : World) (k : Nat) : Prop where
  os : w'.os = w.os
  tape : w'.tape = w.tape
  output : w'.output = w.output
  size : w.heap.size ≤ w'.heap.size
  block : ∀ i, i < w.heap.size → i ≠ k → w'.heap[i]? = w.heap[i]?
theorem GrewK.refl (w : World) (k : Nat) : GrewK w w k := ⟨rfl, rfl, rfl, Nat.le_refl _, fun _ _ _ => rfl⟩
theorem GrewK.trans {w w1 w2 : World} {k : Nat} (h : GrewK w w1 k) (g : GrewK w1 w2 k) : GrewK w w2 k :=
  ⟨g.os.trans h.os, g.tape.trans h.tape, g.output.trans h.output, Nat.le_trans h.size g.size, fun i hi hk => (g.block i (Nat.lt_of_lt_of_le hi h.size) hk).trans (h.block i hi hk)⟩
theorem GrewK.of_below {w w1 : World} (h : Below w.heap.size w w1) (k : Nat) : GrewK w w1 k := ⟨h.os, h.tape, h.output, h.size, fun i hi _ => h.block i hi⟩
theorem GrewK.alloc {w w1 : World} {k : Nat} (h : GrewK w w1 k) (o : Obj) : GrewK w (w1.alloc o) k := h.trans (GrewK.of_below ((Below.refl _ _).alloc (Nat.le_refl _) _) k)
theorem GrewK.set_ {w w1 : World} {k : Nat} (h : GrewK w w1 k) (j : Nat) (u : Value) : GrewK w (w1.setCell ⟨k, j, none⟩ u) k :=
  h.trans ⟨(Below.refl 0 w1 |>.setCell (p := ⟨k, j, none⟩) (Nat.zero_le _) u).os, (Below.refl 0 w1 |>.setCell (p := ⟨k, j, none⟩) (Nat.zero_le _) u).tape, (Below.refl 0 w1 |>.setCell (p := ⟨k, j, none⟩) (Nat.zero_le _) u).output, by simp, fun i _ hk => Below.heap_setCell w1 _ u i hk⟩
theorem GrewK.blk {w w1 : World} {k g : Nat} {o : Obj} (h : GrewK w w1 k) (hb : w.heap[g]? = some o) (hne : g ≠ k) : w1.heap[g]? = some o := (h.block g (blk_lt hb) hne).trans hb
theorem GrewK.below {w0 w w1 : World} {k B : Nat} (h : Below B w0 w) (g : GrewK w w1 k) (hk : B ≤ k) (hB : B ≤ w.heap.size) : Below B w0 w1 :=
  ⟨g.os.trans h.os, g.tape.trans h.tape, g.output.trans h.output, Nat.le_trans h.size g.size, fun i hi => (g.block i (by omega) (by omega)).trans (h.block i hi)⟩

/-- The walk's memory. -/
structure RS (Bn Bs Bt Bw Bk n : Nat) (V0 : Value) (A1 : Option Addr) (c1 : Nat) (l1 : List S38) (w : World) (s : List Bool) : Prop where
  n_ : w.heap[Bn]? = some (.cells #[.int .i64 n] 3 (0, 0))
  s_ : w.heap[Bs]? = some (.cells #[.slice (some ⟨Bk, 0, none⟩) n n] 55 (0, 0))
  t_ : w.heap[Bt]? = some (.cells #[V0, .slice A1 l1.length c1] 25 (0, 0))
  w_ : w.heap[Bw]? = some (.cells #[.func (.func 31) #[] #[.pointer (some ⟨Bn, 0, none⟩), .pointer (some ⟨Bs, 0, none⟩), .pointer (some ⟨Bt, 0, none⟩), .pointer (some ⟨Bw, 0, none⟩)]] 56 (0, 0))
  k_ : w.heap[Bk]? = some (.cells (s.map Value.bool).toArray 4 (0, 0))
  len : s.length = n
  ne : Bn ≠ Bk ∧ Bs ≠ Bk ∧ Bt ≠ Bk ∧ Bw ≠ Bk
  links : ∃ w0, Kd.C k38 w0 A1 l1.length l1 ∧ Below w0.heap.size w0 w ∧ w0.heap.size ≤ Bk
theorem RS.grew {Bn Bs Bt Bw Bk n : Nat} {V0 : Value} {A1 : Option Addr} {c1 : Nat} {l1 : List S38} {w w1 : World} {s s1 : List Bool} (h : RS Bn Bs Bt Bw Bk n V0 A1 c1 l1 w s) (g : GrewK w w1 Bk)
    (hk : w1.heap[Bk]? = some (.cells (s1.map Value.bool).toArray 4 (0, 0))) (hl : s1.length = n) : RS Bn Bs Bt Bw Bk n V0 A1 c1 l1 w1 s1 := by
  refine ⟨g.blk h.n_ h.ne.1, g.blk h.s_ h.ne.2.1, g.blk h.t_ h.ne.2.2.1, g.blk h.w_ h.ne.2.2.2, hk, hl, h.ne, ?_⟩
  obtain ⟨w0, h1, h2, h3⟩ := h.links
  exact ⟨w0, h1, GrewK.below h2 g h3 h2.size, h3⟩
theorem RS.C {Bn Bs Bt Bw Bk n : Nat} {V0 : Value} {A1 : Option Addr} {c1 : Nat} {l1 : List S38} {w : World} {s : List Bool} (h : RS Bn Bs Bt Bw Bk n V0 A1 c1 l1 w s) : Kd.C k38 w A1 l1.length l1 := by
  obtain ⟨w0, h1, h2, h3⟩ := h.links
  exact Kd.C_below h1 h2
theorem RS.alloc {Bn Bs Bt Bw Bk n : Nat} {V0 : Value} {A1 : Option Addr} {c1 : Nat} {l1 : List S38} {w : World} {s : List Bool} (h : RS Bn Bs Bt Bw Bk n V0 A1 c1 l1 w s) (o : Obj) : RS Bn Bs Bt Bw Bk n V0 A1 c1 l1 (w.alloc o) s :=
  h.grew ((GrewK.refl w Bk).alloc o) ((Below.heap_alloc w o Bk (blk_lt h.k_)).trans h.k_) h.len
theorem RS.cellAt {Bn Bs Bt Bw Bk n : Nat} {V0 : Value} {A1 : Option Addr} {c1 : Nat} {l1 : List S38} {w : World} {s : List Bool} (h : RS Bn Bs Bt Bw Bk n V0 A1 c1 l1 w s) (i : Nat) (hi : i < n) : w.cell? ⟨Bk, i, none⟩ = some (.bool (s.getD i false)) := by
  rw [blk_cell h.k_]
  have := h.len
  simp [List.getD_eq_getElem?_getD, List.getElem?_eq_getElem (show i < s.length by omega)]
theorem RS.put {Bn Bs Bt Bw Bk n : Nat} {V0 : Value} {A1 : Option Addr} {c1 : Nat} {l1 : List S38} {w : World} {s : List Bool} (h : RS Bn Bs Bt Bw Bk n V0 A1 c1 l1 w s) (i : Nat) (hi : i < n) : RS Bn Bs Bt Bw Bk n V0 A1 c1 l1 (w.setCell ⟨Bk, i, none⟩ (.bool true)) (s.set i true) := by
  refine h.grew ((GrewK.refl w Bk).set_ i _) ?_ (by simpa using h.len)
  rw [blk_set h.k_]
  simp [List.map_set]
def devs (l1 : List S38) : List (Int × Int) := l1.map fun l => (l.f0.f0, l.f1.f0)
/-- What a walk from a device on leaves. -/
def Went (Bn Bs Bt Bw Bk n : Nat) (V0 : Value) (A1 : Option Addr) (c1 : Nat) (l1 : List S38) (i : Int) (s : List Bool) (w w' : World) : Prop :=
  ∃ s', RS Bn Bs Bt Bw Bk n V0 A1 c1 l1 w' s' ∧ GrewK w w' Bk ∧ Walked (devs l1) n i s s' ∧ On s' i

/-- Those that are joined to a device by one of the first links were seen. -/
structure Near (l1 : List S38) (i : Int) (m : Nat) (t : List Bool) : Prop where
  all : ∀ j : Nat, j < m → ∀ k, ((i, k) = ((rd_T38 l1 (j : Int)).f0.f0, (rd_T38 l1 (j : Int)).f1.f0) ∨ (k, i) = ((rd_T38 l1 (j : Int)).f0.f0, (rd_T38 l1 (j : Int)).f1.f0)) → On t k
theorem link_at (l1 : List S38) (m : Nat) (h : m < l1.length) : ((rd_T38 l1 (m : Int)).f0.f0, (rd_T38 l1 (m : Int)).f1.f0) ∈ devs l1 := by
  unfold rd_T38 devs
  rw [Int.toNat_natCast, List.getD_eq_getElem?_getD, List.getElem?_eq_getElem h]
  exact List.mem_map.2 ⟨l1[m], List.getElem_mem _, rfl⟩
theorem near_all {l1 : List S38} {i : Int} {t : List Bool} (h : Near l1 i l1.length t) (k : Int) (ha : Adj (devs l1) i k) : On t k := by
  have key : ∀ x y, (x, y) ∈ devs l1 → ∃ j : Nat, j < l1.length ∧ (x, y) = ((rd_T38 l1 (j : Int)).f0.f0, (rd_T38 l1 (j : Int)).f1.f0) := by
    intro x y hxy
    obtain ⟨l, hl, e⟩ := List.mem_map.1 hxy
    obtain ⟨j, hj, rfl⟩ := List.mem_iff_getElem.1 hl
    refine ⟨j, hj, ?_⟩
    unfold rd_T38
    rw [Int.toNat_natCast, List.getD_eq_getElem?_getD, List.getElem?_eq_getElem hj]
    exact e.symm
  rcases ha with ha | ha
  · obtain ⟨j, hj, e⟩ := key _ _ ha
    exact h.all j hj k (.inl e)
  · obtain ⟨j, hj, e⟩ := key _ _ ha
    exact h.all j hj k (.inr e)
theorem step_near {l1 : List S38} {n : Nat} {i : Int} {m : Nat} {s t t' : List Bool} {lk : S38} (h0 : 0 ≤ i) (hin : i < n) (hs : i < s.length) (HW : Walked (devs l1) n i (s.set i.toNat true) t) (HN : Near l1 i m t)
    (hlk : rd_T38 l1 (m : Int) = lk) (hm : (lk.f0.f0, lk.f1.f0) ∈ devs l1) (hr : 0 ≤ lk.f0.f0 ∧ lk.f0.f0 < n ∧ 0 ≤ lk.f1.f0 ∧ lk.f1.f0 < n)
    (h : (i = lk.f0.f0 ∧ Walked (devs l1) n lk.f1.f0 t t' ∧ On t' lk.f1.f0) ∨ (¬ i = lk.f0.f0 ∧ i = lk.f1.f0 ∧ Walked (devs l1) n lk.f0.f0 t t' ∧ On t' lk.f0.f0) ∨ (¬ i = lk.f0.f0 ∧ ¬ i = lk.f1.f0 ∧ t' = t)) :
    Walked (devs l1) n i (s.set i.toNat true) t' ∧ Near l1 i (m + 1) t' := by
  have hi : On t i := HW.le i ((on_set s i i h0 hs).2 (.inl rfl))
  have fin : ∀ (le : ∀ j, On t j → On t' j), (∀ k, ((i, k) = (lk.f0.f0, lk.f1.f0) ∨ (k, i) = (lk.f0.f0, lk.f1.f0)) → On t' k) → Near l1 i (m + 1) t' := by
    intro le hk
    refine ⟨fun j hj k hk2 => ?_⟩
    by_cases e : j = m
    · subst e
      rw [hlk] at hk2
      exact hk k hk2
    · exact le k (HN.all j (by omega) k hk2)
  rcases h with ⟨e, hw, ho⟩ | ⟨ne, e, hw, ho⟩ | ⟨n1, n2, rfl⟩
  · refine ⟨HW.trans hw (.inl (.step (.self h0 hin) (.inl (by rw [e]; exact hm)) hr.2.2.1 hr.2.2.2)), fin hw.le (fun k hk => ?_)⟩
    simp only [Prod.mk.injEq] at hk
    rcases hk with ⟨_, rfl⟩ | ⟨rfl, _⟩
    · exact ho
    · rw [← e]; exact hw.le i hi
  · refine ⟨HW.trans hw (.inl (.step (.self h0 hin) (.inr (by rw [e]; exact hm)) hr.1 hr.2.1)), fin hw.le (fun k hk => ?_)⟩
    simp only [Prod.mk.injEq] at hk
    rcases hk with ⟨h1, _⟩ | ⟨rfl, _⟩
    · exact absurd h1 ne
    · exact ho
  · refine ⟨HW, fin (fun _ h => h) (fun k hk => ?_)⟩
    simp only [Prod.mk.injEq] at hk
    rcases hk with ⟨h1, _⟩ | ⟨_, h1⟩
    · exact absurd h1 n1
    · exact absurd h1 n2
set_option maxHeartbeats 2000000 in
theorem walk_any (Bn Bs Bt Bw Bk n : Nat) (V0 : Value) (A1 : Option Addr) (c1 : Nat) (l1 : List S38) (hv0 : V0.oneCell' = true) (hn : n ≤ 1000) (hc1 : l1.length ≤ c1) (hl1 : l1.length ≤ 1000) (hrg : Ranged (devs l1) n) :
    ∀ (N : Nat) (s : List Bool) (i : Int) (w : World), off s ≤ N → 0 ≤ i → i < n → RS Bn Bs Bt Bw Bk n V0 A1 c1 l1 w s →
    Calls Try.prog 31 #[.int .i64 i, .pointer (some ⟨Bn, 0, none⟩), .pointer (some ⟨Bs, 0, none⟩), .pointer (some ⟨Bt, 0, none⟩), .pointer (some ⟨Bw, 0, none⟩)] w fun e w' => e = .returned (.tuple #[]) ∧ Went Bn Bs Bt Bw Bk n V0 A1 c1 l1 i s w w' := by
  intro N
  induction N with
  | zero =>
    intro s i w hoff h0 hin hrs
    have d0 : decide (i < 0) = false := by simp; omega
    have d1 : decide ((n : Int) ≤ i) = false := by simp; omega
    have hq : s.getD i.toNat false = true := by
      cases hq : s.getD i.toNat false with
      | true => rfl
      | false => have := off_set s i.toNat (by have := hrs.len; omega) hq; omega
    have x0 := blk_cell hrs.n_ 0
    have x1 := blk_cell hrs.s_ 0
    have x5 := hrs.cellAt i.toNat (by omega)
    rw [hq] at x5
    have HRS := Aside0.mk hrs
    have HQ := Aside0.mk hq
    clear hrs hq
    go_enter Try.func31, Try.ntmps31
    go_wp2_with fail
    exact bodyPost_ret (v := .tuple #[]) (by simp [results, Try.results31, go_sem]) rfl ⟨rfl, s, HRS.out, GrewK.refl _ _, Walked.refl _ _ _ _, h0, HQ.out⟩
  | succ N ih =>
    intro s i w hoff h0 hin hrs
    have d0 : decide (i < 0) = false := by simp; omega
    have d1 : decide ((n : Int) ≤ i) = false := by simp; omega
    cases hq : s.getD i.toNat false with
    | true =>
      have x0 := blk_cell hrs.n_ 0
      have x1 := blk_cell hrs.s_ 0
      have x5 := hrs.cellAt i.toNat (by omega)
      rw [hq] at x5
      have HRS := Aside0.mk hrs
      have HQ := Aside0.mk hq
      clear hrs hq
      go_enter Try.func31, Try.ntmps31
      go_wp2_with fail
      exact bodyPost_ret (v := .tuple #[]) (by simp [results, Try.results31, go_sem]) rfl ⟨rfl, s, HRS.out, GrewK.refl _ _, Walked.refl _ _ _ _, h0, HQ.out⟩
    | false =>
      have hu25 := Try.underlying25
      have hu38 := Try.underlying38
      have hlen := hrs.len
      have hoff1 : off (s.set i.toNat true) ≤ N := by have := off_set s i.toNat (by omega) hq; omega
      have x0 := blk_cell hrs.n_ 0
      have x1 := blk_cell hrs.s_ 0
      have x5 := hrs.cellAt i.toNat (by omega)
      have f5 := blk_frozen hrs.k_ i.toNat
      have hr1 := hrs.put i.toNat (by omega)
      have y3 := blk_cell hr1.t_ 1
      have HG1 := Aside0.mk ((GrewK.refl w Bk).set_ i.toNat (.bool true))
      have HRS1 := Aside0.mk hr1
      have IH := Aside0.mk ih
      have HO := Aside0.mk hoff1
      have HL := Aside0.mk hlen
      have HQ := Aside0.mk hq
      rw [hq] at x5
      clear hrs ih hr1 hq hoff hoff1 hlen
      go_enter Try.func31, Try.ntmps31
      go_wp2_with fail
      go_loopw [27] (fun c wr => ∃ (m : Nat) (t : List Bool), m ≤ l1.length ∧ c = .int .i64 m ∧ Aside0 (RS Bn Bs Bt Bw Bk n V0 A1 c1 l1 wr t) ∧ Aside0 (GrewK w wr Bk) ∧ Aside0 (Walked (devs l1) n i (s.set i.toNat true) t) ∧ Aside0 (Near l1 i m t)) (fun c _ => l1.length - (intOf c).toNat)
      case atStart => exact ⟨0, _, Nat.zero_le _, rfl, HRS1, HG1, ⟨Walked.refl _ _ _ _⟩, ⟨⟨fun j hj => absurd hj (Nat.not_lt_zero _)⟩⟩⟩
      case round =>
        obtain ⟨m, t, hm, rfl, HR, HG, HW, HN⟩ := hrel
        by_cases hlt : m < l1.length
        · obtain ⟨ad, e, a0, a1, a2, a3⟩ := at_T38 HR.out.C (m : Int) (by omega) (by omega)
          cases e
          rw [Int.toNat_natCast] at a0 a1 a2 a3
          have HX := Aside0.mk (link_at l1 m hlt)
          obtain ⟨lk, hlk⟩ : ∃ lk, rd_T38 l1 (m : Int) = lk := ⟨_, rfl⟩
          rw [hlk] at a0 a1 a2 a3 HX
          have HLK := Aside0.mk hlk
          clear hlk
          have hr2 := HR.out.alloc (.cells #[.int .i64 lk.f0.f0, .int .i64 lk.f0.f1, .int .i64 lk.f1.f0, .int .i64 lk.f1.f1] 38)
          have x4 := blk_cell hr2.w_ 0
          have HR2 := Aside0.mk hr2
          have HG2 := Aside0.mk (HG.out.alloc (.cells #[.int .i64 lk.f0.f0, .int .i64 lk.f0.f1, .int .i64 lk.f1.f0, .int .i64 lk.f1.f1] 38))
          have hrng := hrg.all _ HX.out
          simp only [] at hrng
          have hot : off t ≤ N := Nat.le_trans (off_le _ _ HW.out.len.symm HW.out.le) HO.out
          clear hr2
          by_cases e1 : i = lk.f0.f0
          · have e1b : (i == lk.f0.f0) = true := by simpa using e1
            have E1 := Aside0.mk e1
            have hcall := IH.out t lk.f1.f0 _ hot hrng.2.2.1 hrng.2.2.2 HR2.out
            clear e1 hrng hot
            go_wp2_with fail
            refine hcall.mono ?_
            rintro e w2 ⟨rfl, t', hr', hg', hw', ho'⟩
            have hs := step_near h0 hin (by have := HL.out; omega) HW.out HN.out HLK.out HX.out (hrg.all _ HX.out) (.inl ⟨E1.out, hw', ho'⟩)
            have HR3 := Aside0.mk hr'
            have HG3 := Aside0.mk (HG2.out.trans hg')
            have HW3 := Aside0.mk hs.1
            have HN3 := Aside0.mk hs.2
            clear hcall hr' hg' hw' ho' hs x4
            go_wp2_with fail
            go_roundw
            case rel => exact ⟨m + 1, t', by omega, by go_num, HR3, HG3, HW3, HN3⟩
            case measure => simp [intOf]; omega
          · have e1b : (i == lk.f0.f0) = false := by simpa using e1
            by_cases e2 : i = lk.f1.f0
            · have e2b : (i == lk.f1.f0) = true := by simpa using e2
              have E1 := Aside0.mk (And.intro e1 e2)
              have hcall := IH.out t lk.f0.f0 _ hot hrng.1 hrng.2.1 HR2.out
              clear e1 e2 hrng hot
              go_wp2_with fail
              refine hcall.mono ?_
              rintro e w2 ⟨rfl, t', hr', hg', hw', ho'⟩
              have hs := step_near h0 hin (by have := HL.out; omega) HW.out HN.out HLK.out HX.out (hrg.all _ HX.out) (.inr (.inl ⟨E1.out.1, E1.out.2, hw', ho'⟩))
              have HR3 := Aside0.mk hr'
              have HG3 := Aside0.mk (HG2.out.trans hg')
              have HW3 := Aside0.mk hs.1
              have HN3 := Aside0.mk hs.2
              clear hcall hr' hg' hw' ho' hs x4
              go_wp2_with fail
              go_roundw
              case rel => exact ⟨m + 1, t', by omega, by go_num, HR3, HG3, HW3, HN3⟩
              case measure => simp [intOf]; omega
            · have e2b : (i == lk.f1.f0) = false := by simpa using e2
              have hs := step_near (t' := t) h0 hin (by have := HL.out; omega) HW.out HN.out HLK.out HX.out (hrg.all _ HX.out) (.inr (.inr ⟨e1, e2, rfl⟩))
              have HW3 := Aside0.mk hs.1
              have HN3 := Aside0.mk hs.2
              clear e1 e2 hrng hot hs
              go_wp2_with fail
              go_roundw
              case rel => exact ⟨m + 1, t, by omega, by go_num, HR2, HG2, HW3, HN3⟩
              case measure => simp [intOf]; omega
        · obtain rfl : m = l1.length := by omega
          go_wp2_with fail
          have hcl := Walked.close h0 hin HL.out HW.out (fun k ha _ _ => near_all HN.out k ha)
          first
            | exact bodyPost_ret (v := .tuple #[]) (by simp [results, Try.results31, go_sem]) rfl ⟨rfl, t, HR.out, HG.out, hcl.1, hcl.2⟩
            | (go_end0; exact ⟨rfl, t, HR.out, HG.out, hcl.1, hcl.2⟩)
end Go.Proofs.Ytglfpobapkkgdaa.H
