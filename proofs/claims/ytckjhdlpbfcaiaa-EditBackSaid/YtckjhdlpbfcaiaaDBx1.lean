/- Eda1, Bx1. -/
import Derived.Test.YtckjhdlpbfcaiaaDEdtP
import Derived.Lib.SliceRun
import Derived.Laws.IdiomCopy
import Derived.Laws.AppendOwn
import Derived.StillTailTactics
/-! ### Eda1 -/
namespace Go.Proofs.Ytckjhdlpbfcaiaa.H
open Go.RowKit Go.Proofs.Ytckjhdlpbfcaiaa.P Go.Proofs.YtckjhdlpbfcaiaaW.PrintWords Go.Proofs.YtckjhdlpbfcaiaaW.PrintLast Go.Proofs.YtckjhdlpbfcaiaaW.PrintMore
set_option linter.unusedVariables false
set_option linter.unusedSimpArgs false
set_option maxRecDepth 20000
abbrev Rul := S35
def encR (r : S35) : Value := .agg #[.int .i64 r.f0, .int .i64 r.f1, .int .i64 r.f2, .int .i64 r.f3, .int .u32 r.f4.f0, .int .u32 r.f4.f1, .int .i64 r.f5]
def rcells (r : Rul) : List Value := [.int .i64 r.f0, .int .i64 r.f1, .int .i64 r.f2, .int .i64 r.f3, .int .u32 r.f4.f0, .int .u32 r.f4.f1, .int .i64 r.f5]
def RowAt (cs : Array Value) (t : Nat) (y : Rul) : Prop := ∀ i u, (rcells y)[i]? = some u → cs[t * 7 + i]? = some u
theorem rowAt_cells {w : World} {g : Nat} {t : TypeId} {cs : Array Value} {j : Nat} {y : Rul} (hb : w.heap[g]? = some (.cells cs t (0, 0))) (h : RowAt cs j y) :
    w.cell? ⟨g, j * 7, none⟩ = some (.int .i64 y.f0) ∧ w.cell? ⟨g, j * 7 + 1, none⟩ = some (.int .i64 y.f1) ∧ w.cell? ⟨g, j * 7 + 2, none⟩ = some (.int .i64 y.f2) ∧ w.cell? ⟨g, j * 7 + 3, none⟩ = some (.int .i64 y.f3) ∧ w.cell? ⟨g, j * 7 + 4, none⟩ = some (.int .u32 y.f4.f0) ∧ w.cell? ⟨g, j * 7 + 5, none⟩ = some (.int .u32 y.f4.f1) ∧ w.cell? ⟨g, j * 7 + 6, none⟩ = some (.int .i64 y.f5) := by
  refine ⟨?_, ?_, ?_, ?_, ?_, ?_, ?_⟩ <;> rw [blk_cell hb]
  · exact h 0 _ rfl
  · exact h 1 _ rfl
  · exact h 2 _ rfl
  · exact h 3 _ rfl
  · exact h 4 _ rfl
  · exact h 5 _ rfl
  · exact h 6 _ rfl
def rflat (l : List Rul) : List Value := l.flatMap rcells
theorem rflat_len : ∀ l : List Rul, (rflat l).length = l.length * 7
  | [] => rfl
  | x :: t => by
    have := rflat_len t
    show (rcells x ++ rflat t).length = _
    rw [List.length_append, this, List.length_cons]
    show 7 + _ = _
    omega
theorem rflat_at : ∀ (l : List Rul) (j : Nat) (y : Rul), l[j]? = some y → ∀ i u, (rcells y)[i]? = some u → (rflat l)[j * 7 + i]? = some u
  | [], j, y, h => by simp at h
  | x :: t, 0, y, h => fun i u hu => by
    simp at h
    subst h
    have hi := (List.getElem?_eq_some_iff.1 hu).1
    show (rcells x ++ rflat t)[0 * 7 + i]? = _
    rw [show 0 * 7 + i = i by omega, List.getElem?_append_left hi]
    exact hu
  | x :: t, j + 1, y, h => fun i u hu => by
    have := rflat_at t j y (by simpa using h) i u hu
    show (rcells x ++ rflat t)[(j + 1) * 7 + i]? = _
    rw [show (j + 1) * 7 + i = 7 + (j * 7 + i) by omega, List.getElem?_append_right (by show 7 ≤ _; omega)]
    rw [show 7 + (j * 7 + i) - (rcells x).length = j * 7 + i by show 7 + _ - 7 = _; omega]
    exact this
theorem rflat_in : ∀ (l : List Rul) (k : Nat) (u : Value), (rflat l)[k]? = some u → ∃ j y i, l[j]? = some y ∧ (rcells y)[i]? = some u ∧ k = j * 7 + i
  | [], k, u, h => by simp [rflat] at h
  | x :: t, k, u, h => by
    change (rcells x ++ rflat t)[k]? = some u at h
    by_cases hk : k < 7
    · rw [List.getElem?_append_left (by show k < 7; exact hk)] at h
      exact ⟨0, x, k, rfl, h, by omega⟩
    · rw [List.getElem?_append_right (by show 7 ≤ k; omega)] at h
      obtain ⟨j, y, i, h1, h2, h3⟩ := rflat_in t (k - 7) u h
      exact ⟨j + 1, y, i, h1, h2, by omega⟩
theorem rcells_one (y : Rul) : ∀ u ∈ rcells y, u.oneCell' = true := by
  intro u hu
  simp [rcells] at hu
  rcases hu with rfl | rfl | rfl | rfl | rfl | rfl | rfl <;> rfl
theorem rflat_one (l : List Rul) : ∀ u ∈ rflat l, u.oneCell' = true := by
  intro u hu
  obtain ⟨y, _, h⟩ := List.mem_flatMap.1 hu
  exact rcells_one y u h
theorem reads_rules {w : World} {A : Option Addr} {l : List Rul} (h : Kd.C k35 w A l.length l) (ad : Addr) (e : A = some ad) : ∀ k u, (rflat l)[k]? = some u → w.cell? (ad.add k) = some u := by
  intro k u hu
  obtain ⟨j, y, i, h1, h2, rfl⟩ := rflat_in l k u hu
  have hj := (List.getElem?_eq_some_iff.1 h1).1
  obtain ⟨ad', c, e', _, hK, hc⟩ := Kd.C_get h z35 (j : Int) (by omega) (by omega)
  rw [e] at e'
  cases e'
  have hc : ∀ j' u, c[j']? = some u → w.cell? (ad.add (j * 7 + j')) = some u := hc
  have hy : l.getD ((j : Int)).toNat z35 = y := by rw [Int.toNat_natCast, List.getD_eq_getElem?_getD, h1]; rfl
  rw [hy] at hK
  obtain rfl := k35_open hK
  exact hc i u h2
def OwnR (base : Nat) (v : Value) (l : List Rul) (w : World) : Prop := w.ownsRow base 35 7 v l.length (rflat l)
theorem cloneR_any (A : Option Addr) (c : Nat) (l : List Rul) (w : World) (hr : Kd.C k35 w A l.length l) (hc : l.length ≤ c) (hl : l.length * 48 ≤ 140737488355328) :
    Calls Try.prog 30 #[.slice A l.length c] w fun e w' => ∃ v, e = .returned v ∧ OwnR w.heap.size v l w' ∧ Below w.heap.size w w' := by
  unfold OwnR
  obtain ⟨i0, hi, hz0, hz1, hz2⟩ := info_parts info35
  have q23 : ∀ (w : World) (a : Option Addr) (n c n' c' : Nat), (binOp .eql 22 (.slice a n c) (.slice none n' c')).run Try.prog w = .ok (.bool a.isNone) w := fun w a n c n' c' => Lib.run_eql_slice_nil w _ _ a n c n' c' Try.underlying22
  cases A with
  | none =>
    have hl0 : l = [] := by
      rcases Nat.eq_zero_or_pos l.length with h | h
      · exact List.eq_nil_of_length_eq_zero h
      · obtain ⟨ad, e, _⟩ := hr.2.2 h
        cases e
    subst hl0
    clear hr
    go_enter Try.func30, Try.ntmps30
    go_wp2
    go_ret
    exact ⟨_, rfl, ⟨rfl, .inl ⟨rfl, rfl⟩⟩, Below.refl _ _⟩
  | some ad =>
    have HR := Aside0.mk hr
    have HL := Aside0.mk (rflat_len l)
    clear hr
    go_enter Try.func30, Try.ntmps30
    go_wp2_with (first | (at_builtin; refine wpList_append_own _ rfl (.tmp 5) (.tmp 6) 22 rfl w.heap.size 35 i0 (.agg #[(.int .i64 0), (.int .i64 0), (.int .i64 0), (.int .i64 0), (.int .u32 0), (.int .u32 0), (.int .i64 0)]) 7 48 Try.underlying22 hi hz0 hz1 hz2 rfl (by decide) (.slice (some ⟨w.heap.size, 0, none⟩) 0 0) 0 [] rfl ⟨rfl, .inr ⟨w.heap.size, 0, #[], rfl, Nat.le_refl _, blk_new _ _, Nat.le_refl _, by decide, rfl, rfl⟩⟩ ad l.length c (rflat l) rfl HL.out (reads_rules (Kd.C_alloc HR.out _) ad rfl) (rflat_one l) (by unfold maxLen; omega) (by omega) (by simp) ?_; intro v2 w2 ho3 hg3 _))
    have hB2 := ((Below.refl w.heap.size w).alloc (Nat.le_refl _) (.cells #[] 35)).grown hg3 (by simp) (fun q hq => by simp [Value.ownBlock] at hq; omega)
    rw [Nat.zero_add, List.nil_append] at ho3
    clear hg3
    go_wp2
    go_ret
    exact ⟨_, rfl, ho3, hB2⟩
def laidAt (cs : Array Value) (o : Nat) : List Value → Array Value
  | [] => cs
  | v :: r => laidAt (cs.setIfInBounds o v) (o + 1) r
theorem laidAt_size : ∀ (vs : List Value) (cs : Array Value) (o : Nat), (laidAt cs o vs).size = cs.size
  | [], _, _ => rfl
  | v :: r, cs, o => by rw [laidAt, laidAt_size r]; simp
theorem laidAt_other : ∀ (vs : List Value) (cs : Array Value) (o k : Nat), (k < o ∨ o + vs.length ≤ k) → (laidAt cs o vs)[k]? = cs[k]?
  | [], _, _, _, _ => rfl
  | v :: r, cs, o, k, h => by
    rw [List.length_cons] at h
    rw [laidAt, laidAt_other r _ _ k (by omega), Array.getElem?_setIfInBounds, if_neg (by omega)]
theorem laidAt_at : ∀ (vs : List Value) (cs : Array Value) (o i : Nat) (u : Value), o + vs.length ≤ cs.size → vs[i]? = some u → (laidAt cs o vs)[o + i]? = some u
  | [], _, _, _, _, _, h => by simp at h
  | v :: r, cs, o, 0, u, hs, h => by
    simp at h
    subst h
    rw [List.length_cons] at hs
    rw [laidAt, laidAt_other r _ _ (o + 0) (by omega)]
    simp [Array.getElem?_setIfInBounds]
    omega
  | v :: r, cs, o, i + 1, u, hs, h => by
    rw [List.length_cons] at hs
    have := laidAt_at r (cs.setIfInBounds o v) (o + 1) i u (by simp; omega) (by simpa using h)
    rw [laidAt, show o + (i + 1) = o + 1 + i by omega]
    exact this
theorem setCells_laid {g : Nat} {t : TypeId} : ∀ (vs : List Value) (o : Nat) {w : World} {cs : Array Value}, w.heap[g]? = some (.cells cs t (0, 0)) → (w.setCells g o vs).heap[g]? = some (.cells (laidAt cs o vs) t (0, 0))
  | [], o, w, cs, h => h
  | v :: r, o, w, cs, h => setCells_laid r (o + 1) (blk_set h o v)
theorem heap_setCells_ne {g k : Nat} (hne : k ≠ g) : ∀ (vs : List Value) (o : Nat) (w : World), (w.setCells g o vs).heap[k]? = w.heap[k]?
  | [], _, _ => rfl
  | v :: r, o, w => (heap_setCells_ne hne r (o + 1) (w.setCell ⟨g, o, none⟩ v)).trans (Below.heap_setCell w ⟨g, o, none⟩ v k hne)
theorem below_cells {B g : Nat} {w0 : World} (hB : B ≤ g) : ∀ (vs : List Value) (o : Nat) {w : World}, Below B w0 w → Below B w0 (w.setCells g o vs)
  | [], o, w, h => h
  | v :: r, o, w, h => below_cells hB r (o + 1) (h.setCell (p := ⟨g, o, none⟩) hB v)
def blkR (r : Rul) : Obj := .cells #[.int .i64 r.f0, .int .i64 r.f1, .int .i64 r.f2, .int .i64 r.f3, .int .u32 r.f4.f0, .int .u32 r.f4.f1, .int .i64 r.f5] 35 (0, 0)
theorem setCells_rule {w : World} {g : Nat} {m : Rul} (y : Rul) (h : w.heap[g]? = some (blkR m)) : (w.setCells g 0 (rcells y)).heap[g]? = some (blkR y) := by
  have := setCells_laid (rcells y) 0 h
  rw [this]
  rfl
end Go.Proofs.Ytckjhdlpbfcaiaa.H
/-! ### Bx1 -/
namespace Go.Proofs.Ytckjhdlpbfcaiaa.B
open Go.Proofs.Ytckjhdlpbfcaiaa.P
open Go.RowKit Go.Proofs.YtckjhdlpbfcaiaaW.PrintWords Go.Proofs.YtckjhdlpbfcaiaaW.PrintLast Go.Proofs.YtckjhdlpbfcaiaaW.PrintMore
set_option linter.unusedVariables false
set_option linter.unusedSimpArgs false
def cmp_isNaN_int.f (a0 : Int) : Option (Bool) := some (a0 != a0)
set_option maxHeartbeats 8000000 in
set_option maxRecDepth 100000 in
theorem cmp_isNaN_int.calls (a0 : Int) (r : Bool) (w : World) (h : cmp_isNaN_int.f a0 = some r) :
    Calls Try.prog 43 #[.int .i64 a0] w fun e w' => e = .returned (.bool r) ∧ Drawn0 w w' := by
  have H : (some (a0 != a0)) = some r := h
  clear h
  obtain rfl := Option.some.inj H
  go_enter Try.func43, Try.ntmps43
  go_wp2
  go_ret
  exact ⟨by first | rfl | (simp; done) | (simp [*]; done), by repeat (first | exact Drawn0.refl _ | apply Drawn0.step)⟩
def cmp_Compare_int.f (a0 : Int) (a1 : Int) : Option (Int) := (cmp_isNaN_int.f a0).bind fun t101 => ((cmp_isNaN_int.f a1).bind fun t102 => (if t101 = true then (if t102 = true then (some 0) else (some (-1))) else (if t102 = true then (some 1) else (if a0 < a1 then (some (-1)) else (if a0 > a1 then (some 1) else (some 0))))))
set_option maxHeartbeats 8000000 in
set_option maxRecDepth 100000 in
theorem cmp_Compare_int.calls (a0 : Int) (a1 : Int) (r : Int) (w : World) (h : cmp_Compare_int.f a0 a1 = some r) :
    Calls Try.prog 33 #[.int .i64 a0, .int .i64 a1] w fun e w' => e = .returned (.int .i64 r) ∧ Drawn0 w w' := by
  have H : ((cmp_isNaN_int.f a0).bind fun t101 => ((cmp_isNaN_int.f a1).bind fun t102 => (if t101 = true then (if t102 = true then (some 0) else (some (-1))) else (if t102 = true then (some 1) else (if a0 < a1 then (some (-1)) else (if a0 > a1 then (some 1) else (some 0))))))) = some r := h
  clear h
  replace H := Option.bind_eq_some_iff.mp H
  obtain ⟨t101, A30, H⟩ := H
  replace H : ((cmp_isNaN_int.f a1).bind fun t102 => (if t101 = true then (if t102 = true then (some 0) else (some (-1))) else (if t102 = true then (some 1) else (if a0 < a1 then (some (-1)) else (if a0 > a1 then (some 1) else (some 0)))))) = some r := H
  have A3 := Aside0.mk A30
  clear A30
  replace H := Option.bind_eq_some_iff.mp H
  obtain ⟨t102, A40, H⟩ := H
  replace H : (if t101 = true then (if t102 = true then (some 0) else (some (-1))) else (if t102 = true then (some 1) else (if a0 < a1 then (some (-1)) else (if a0 > a1 then (some 1) else (some 0))))) = some r := H
  have A4 := Aside0.mk A40
  clear A40
  by_cases c5 : t101 = true
  · subst c5
    have H1 : (if t102 = true then (some 0) else (some (-1))) = some r := by rw [if_pos rfl] at H; exact H
    clear H
    have H := H1
    clear H1
    by_cases c6 : t102 = true
    · subst c6
      have H1 : (some 0) = some r := by rw [if_pos rfl] at H; exact H
      clear H
      have H := H1
      clear H1
      obtain rfl := Option.some.inj H
      go_enter Try.func33, Try.ntmps33
      go_wp2_with (first | ((with_reducible refine gate_callee (f := 43) rfl ?_); refine goesL_ (some 8) rfl rfl Try.func43 (by kernel_rfl) rfl #[.int .i64 a0] rfl (by (try simp only [List.map_toArray, List.map_cons, List.map_nil]); first | done | rfl | (simp only [List.length_drop, List.length_take]; rfl)) ?_; (with_reducible refine (cmp_isNaN_int.calls a0 true _ A3.out).mono ?_); rintro e w' ⟨rfl, ⟨nd, rfl⟩⟩; refine ⟨_, rfl, ?_⟩) | ((with_reducible refine gate_callee (f := 43) rfl ?_); refine goesL_ (some 10) rfl rfl Try.func43 (by kernel_rfl) rfl #[.int .i64 a1] rfl (by (try simp only [List.map_toArray, List.map_cons, List.map_nil]); first | done | rfl | (simp only [List.length_drop, List.length_take]; rfl)) ?_; (with_reducible refine (cmp_isNaN_int.calls a1 true _ A4.out).mono ?_); rintro e w' ⟨rfl, ⟨nd, rfl⟩⟩; refine ⟨_, rfl, ?_⟩))
      go_ret
      exact ⟨by first | rfl | (simp; done) | (simp [*]; done), by repeat (first | exact Drawn0.refl _ | apply Drawn0.step)⟩
    · replace c6 := Bool.eq_false_iff.mpr c6
      subst c6
      have H1 : (some (-1)) = some r := by rw [if_neg (show ¬ (false = true) by decide)] at H; exact H
      clear H
      have H := H1
      clear H1
      obtain rfl := Option.some.inj H
      go_enter Try.func33, Try.ntmps33
      go_wp2_with (first | ((with_reducible refine gate_callee (f := 43) rfl ?_); refine goesL_ (some 8) rfl rfl Try.func43 (by kernel_rfl) rfl #[.int .i64 a0] rfl (by (try simp only [List.map_toArray, List.map_cons, List.map_nil]); first | done | rfl | (simp only [List.length_drop, List.length_take]; rfl)) ?_; (with_reducible refine (cmp_isNaN_int.calls a0 true _ A3.out).mono ?_); rintro e w' ⟨rfl, ⟨nd, rfl⟩⟩; refine ⟨_, rfl, ?_⟩) | ((with_reducible refine gate_callee (f := 43) rfl ?_); refine goesL_ (some 10) rfl rfl Try.func43 (by kernel_rfl) rfl #[.int .i64 a1] rfl (by (try simp only [List.map_toArray, List.map_cons, List.map_nil]); first | done | rfl | (simp only [List.length_drop, List.length_take]; rfl)) ?_; (with_reducible refine (cmp_isNaN_int.calls a1 false _ A4.out).mono ?_); rintro e w' ⟨rfl, ⟨nd, rfl⟩⟩; refine ⟨_, rfl, ?_⟩))
      go_ret
      exact ⟨by first | rfl | (simp; done) | (simp [*]; done), by repeat (first | exact Drawn0.refl _ | apply Drawn0.step)⟩
  · replace c5 := Bool.eq_false_iff.mpr c5
    subst c5
    have H1 : (if t102 = true then (some 1) else (if a0 < a1 then (some (-1)) else (if a0 > a1 then (some 1) else (some 0)))) = some r := by rw [if_neg (show ¬ (false = true) by decide)] at H; exact H
    clear H
    have H := H1
    clear H1
    by_cases c7 : t102 = true
    · subst c7
      have H1 : (some 1) = some r := by rw [if_pos rfl] at H; exact H
      clear H
      have H := H1
      clear H1
      obtain rfl := Option.some.inj H
      go_enter Try.func33, Try.ntmps33
      go_wp2_with (first | ((with_reducible refine gate_callee (f := 43) rfl ?_); refine goesL_ (some 8) rfl rfl Try.func43 (by kernel_rfl) rfl #[.int .i64 a0] rfl (by (try simp only [List.map_toArray, List.map_cons, List.map_nil]); first | done | rfl | (simp only [List.length_drop, List.length_take]; rfl)) ?_; (with_reducible refine (cmp_isNaN_int.calls a0 false _ A3.out).mono ?_); rintro e w' ⟨rfl, ⟨nd, rfl⟩⟩; refine ⟨_, rfl, ?_⟩) | ((with_reducible refine gate_callee (f := 43) rfl ?_); refine goesL_ (some 10) rfl rfl Try.func43 (by kernel_rfl) rfl #[.int .i64 a1] rfl (by (try simp only [List.map_toArray, List.map_cons, List.map_nil]); first | done | rfl | (simp only [List.length_drop, List.length_take]; rfl)) ?_; (with_reducible refine (cmp_isNaN_int.calls a1 true _ A4.out).mono ?_); rintro e w' ⟨rfl, ⟨nd, rfl⟩⟩; refine ⟨_, rfl, ?_⟩))
      go_ret
      exact ⟨by first | rfl | (simp; done) | (simp [*]; done), by repeat (first | exact Drawn0.refl _ | apply Drawn0.step)⟩
    · replace c7 := Bool.eq_false_iff.mpr c7
      subst c7
      have H1 : (if a0 < a1 then (some (-1)) else (if a0 > a1 then (some 1) else (some 0))) = some r := by rw [if_neg (show ¬ (false = true) by decide)] at H; exact H
      clear H
      have H := H1
      clear H1
      by_cases c8 : a0 < a1
      · rw [if_pos c8] at H
        have c8b0 : decide (a0 < a1) = true := decide_eq_true c8
        clear c8
        obtain rfl := Option.some.inj H
        go_enter Try.func33, Try.ntmps33
        go_wp2_with (first | ((with_reducible refine gate_callee (f := 43) rfl ?_); refine goesL_ (some 8) rfl rfl Try.func43 (by kernel_rfl) rfl #[.int .i64 a0] rfl (by (try simp only [List.map_toArray, List.map_cons, List.map_nil]); first | done | rfl | (simp only [List.length_drop, List.length_take]; rfl)) ?_; (with_reducible refine (cmp_isNaN_int.calls a0 false _ A3.out).mono ?_); rintro e w' ⟨rfl, ⟨nd, rfl⟩⟩; refine ⟨_, rfl, ?_⟩) | ((with_reducible refine gate_callee (f := 43) rfl ?_); refine goesL_ (some 10) rfl rfl Try.func43 (by kernel_rfl) rfl #[.int .i64 a1] rfl (by (try simp only [List.map_toArray, List.map_cons, List.map_nil]); first | done | rfl | (simp only [List.length_drop, List.length_take]; rfl)) ?_; (with_reducible refine (cmp_isNaN_int.calls a1 false _ A4.out).mono ?_); rintro e w' ⟨rfl, ⟨nd, rfl⟩⟩; refine ⟨_, rfl, ?_⟩))
        go_ret
        exact ⟨by first | rfl | (simp; done) | (simp [*]; done), by repeat (first | exact Drawn0.refl _ | apply Drawn0.step)⟩
      · rw [if_neg c8] at H
        have c8b0 : decide (a0 < a1) = false := decide_eq_false c8
        clear c8
        by_cases c9 : a0 > a1
        · rw [if_pos c9] at H
          have c9b0 : decide (a1 < a0) = true := decide_eq_true c9
          clear c9
          obtain rfl := Option.some.inj H
          go_enter Try.func33, Try.ntmps33
          go_wp2_with (first | ((with_reducible refine gate_callee (f := 43) rfl ?_); refine goesL_ (some 8) rfl rfl Try.func43 (by kernel_rfl) rfl #[.int .i64 a0] rfl (by (try simp only [List.map_toArray, List.map_cons, List.map_nil]); first | done | rfl | (simp only [List.length_drop, List.length_take]; rfl)) ?_; (with_reducible refine (cmp_isNaN_int.calls a0 false _ A3.out).mono ?_); rintro e w' ⟨rfl, ⟨nd, rfl⟩⟩; refine ⟨_, rfl, ?_⟩) | ((with_reducible refine gate_callee (f := 43) rfl ?_); refine goesL_ (some 10) rfl rfl Try.func43 (by kernel_rfl) rfl #[.int .i64 a1] rfl (by (try simp only [List.map_toArray, List.map_cons, List.map_nil]); first | done | rfl | (simp only [List.length_drop, List.length_take]; rfl)) ?_; (with_reducible refine (cmp_isNaN_int.calls a1 false _ A4.out).mono ?_); rintro e w' ⟨rfl, ⟨nd, rfl⟩⟩; refine ⟨_, rfl, ?_⟩))
          go_ret
          exact ⟨by first | rfl | (simp; done) | (simp [*]; done), by repeat (first | exact Drawn0.refl _ | apply Drawn0.step)⟩
        · rw [if_neg c9] at H
          have c9b0 : decide (a1 < a0) = false := decide_eq_false c9
          clear c9
          obtain rfl := Option.some.inj H
          go_enter Try.func33, Try.ntmps33
          go_wp2_with (first | ((with_reducible refine gate_callee (f := 43) rfl ?_); refine goesL_ (some 8) rfl rfl Try.func43 (by kernel_rfl) rfl #[.int .i64 a0] rfl (by (try simp only [List.map_toArray, List.map_cons, List.map_nil]); first | done | rfl | (simp only [List.length_drop, List.length_take]; rfl)) ?_; (with_reducible refine (cmp_isNaN_int.calls a0 false _ A3.out).mono ?_); rintro e w' ⟨rfl, ⟨nd, rfl⟩⟩; refine ⟨_, rfl, ?_⟩) | ((with_reducible refine gate_callee (f := 43) rfl ?_); refine goesL_ (some 10) rfl rfl Try.func43 (by kernel_rfl) rfl #[.int .i64 a1] rfl (by (try simp only [List.map_toArray, List.map_cons, List.map_nil]); first | done | rfl | (simp only [List.length_drop, List.length_take]; rfl)) ?_; (with_reducible refine (cmp_isNaN_int.calls a1 false _ A4.out).mono ?_); rintro e w' ⟨rfl, ⟨nd, rfl⟩⟩; refine ⟨_, rfl, ?_⟩))
          go_ret
          exact ⟨by first | rfl | (simp; done) | (simp [*]; done), by repeat (first | exact Drawn0.refl _ | apply Drawn0.step)⟩
end Go.Proofs.Ytckjhdlpbfcaiaa.B
