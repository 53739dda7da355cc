/- Rul2, Rul3. -/
import Derived.Test.YtkjighagiecbaaaGRul1
import Derived.Laws.AppendOwn
/-! ### Rul2 -/
namespace Go.Proofs.Ytkjighagiecbaaa.H
open Go.RowKit Go.Proofs.Ytkjighagiecbaaa.P Go.Proofs.YtkjighagiecbaaaW.PrintWords Go.Proofs.YtkjighagiecbaaaW.PrintLast Go.Proofs.YtkjighagiecbaaaW.PrintMore
set_option linter.unusedVariables false
set_option linter.unusedSimpArgs false
set_option maxRecDepth 20000
def rflat (l : List Rul) : List Value := l.flatMap rcells
theorem rflat_len : ∀ l : List Rul, (rflat l).length = l.length * 7
  | [] => rfl
  | x :: t => by
    have := rflat_len t
    show (rcells x ++ rflat t).length = _
    rw [List.length_append, this, List.length_cons]
    show 7 + _ = _
    omega
theorem rflat_at : ∀ (l : List Rul) (j : Nat) (y : Rul), l[j]? = some y → ∀ i u, (rcells y)[i]? = some u → (rflat l)[j * 7 + i]? = some u
  | [], j, y, h => by simp at h
  | x :: t, 0, y, h => fun i u hu => by
    simp at h
    subst h
    have hi := (List.getElem?_eq_some_iff.1 hu).1
    show (rcells x ++ rflat t)[0 * 7 + i]? = _
    rw [show 0 * 7 + i = i by omega, List.getElem?_append_left hi]
    exact hu
  | x :: t, j + 1, y, h => fun i u hu => by
    have := rflat_at t j y (by simpa using h) i u hu
    show (rcells x ++ rflat t)[(j + 1) * 7 + i]? = _
    rw [show (j + 1) * 7 + i = 7 + (j * 7 + i) by omega, List.getElem?_append_right (by show 7 ≤ _; omega)]
    rw [show 7 + (j * 7 + i) - (rcells x).length = j * 7 + i by show 7 + _ - 7 = _; omega]
    exact this
theorem rflat_in : ∀ (l : List Rul) (k : Nat) (u : Value), (rflat l)[k]? = some u → ∃ j y i, l[j]? = some y ∧ (rcells y)[i]? = some u ∧ k = j * 7 + i
  | [], k, u, h => by simp [rflat] at h
  | x :: t, k, u, h => by
    change (rcells x ++ rflat t)[k]? = some u at h
    by_cases hk : k < 7
    · rw [List.getElem?_append_left (by show k < 7; exact hk)] at h
      exact ⟨0, x, k, rfl, h, by omega⟩
    · rw [List.getElem?_append_right (by show 7 ≤ k; omega)] at h
      obtain ⟨j, y, i, h1, h2, h3⟩ := rflat_in t (k - 7) u h
      exact ⟨j + 1, y, i, h1, h2, by omega⟩
theorem rcells_one (y : Rul) : ∀ u ∈ rcells y, u.oneCell' = true := by
  intro u hu
  simp [rcells] at hu
  rcases hu with rfl | rfl | rfl | rfl | rfl | rfl | rfl <;> rfl
theorem rflat_one (l : List Rul) : ∀ u ∈ rflat l, u.oneCell' = true := by
  intro u hu
  obtain ⟨y, _, h⟩ := List.mem_flatMap.1 hu
  exact rcells_one y u h
theorem reads_rules {w : World} {A : Option Addr} {l : List Rul} (h : Kd.C k62 w A l.length l) (ad : Addr) (e : A = some ad) : ∀ k u, (rflat l)[k]? = some u → w.cell? (ad.add k) = some u := by
  intro k u hu
  obtain ⟨j, y, i, h1, h2, rfl⟩ := rflat_in l k u hu
  have hj := (List.getElem?_eq_some_iff.1 h1).1
  obtain ⟨ad', c, e', _, hK, hc⟩ := Kd.C_get h z62 (j : Int) (by omega) (by omega)
  rw [e] at e'
  cases e'
  have hc : ∀ j' u, c[j']? = some u → w.cell? (ad.add (j * 7 + j')) = some u := hc
  have hy : l.getD ((j : Int)).toNat z62 = y := by rw [Int.toNat_natCast, List.getD_eq_getElem?_getD, h1]; rfl
  rw [hy] at hK
  obtain rfl := k62_open hK
  exact hc i u h2
def OwnR (base : Nat) (v : Value) (l : List Rul) (w : World) : Prop := w.ownsRow base 62 7 v l.length (rflat l)
theorem cloneR_any (A : Option Addr) (c : Nat) (l : List Rul) (w : World) (hr : Kd.C k62 w A l.length l) (hc : l.length ≤ c) (hl : l.length * 48 ≤ 140737488355328) :
    Calls Try.prog 55 #[.slice A l.length c] w fun e w' => ∃ v, e = .returned v ∧ OwnR w.heap.size v l w' ∧ Below w.heap.size w w' := by
  unfold OwnR
  obtain ⟨i0, hi, hz0, hz1, hz2⟩ := info_parts info62
  have q23 : ∀ (w : World) (a : Option Addr) (n c n' c' : Nat), (binOp .eql 26 (.slice a n c) (.slice none n' c')).run Try.prog w = .ok (.bool a.isNone) w := fun w a n c n' c' => Lib.run_eql_slice_nil w _ _ a n c n' c' Try.underlying26
  cases A with
  | none =>
    have hl0 : l = [] := by
      rcases Nat.eq_zero_or_pos l.length with h | h
      · exact List.eq_nil_of_length_eq_zero h
      · obtain ⟨ad, e, _⟩ := hr.2.2 h
        cases e
    subst hl0
    clear hr
    go_enter Try.func55, Try.ntmps55
    go_wp2
    go_ret
    exact ⟨_, rfl, ⟨rfl, .inl ⟨rfl, rfl⟩⟩, Below.refl _ _⟩
  | some ad =>
    have HR := Aside0.mk hr
    have HL := Aside0.mk (rflat_len l)
    clear hr
    go_enter Try.func55, Try.ntmps55
    go_wp2_with (first | (at_builtin; refine wpList_append_own _ rfl (.tmp 5) (.tmp 6) 26 rfl w.heap.size 62 i0 (.agg #[(.int .i64 0), (.int .i64 0), (.int .i64 0), (.int .i64 0), (.int .u32 0), (.int .u32 0), (.int .i64 0)]) 7 48 Try.underlying26 hi hz0 hz1 hz2 rfl (by decide) (.slice (some ⟨w.heap.size, 0, none⟩) 0 0) 0 [] rfl ⟨rfl, .inr ⟨w.heap.size, 0, #[], rfl, Nat.le_refl _, blk_new _ _, Nat.le_refl _, by decide, rfl, rfl⟩⟩ ad l.length c (rflat l) rfl HL.out (reads_rules (Kd.C_alloc HR.out _) ad rfl) (rflat_one l) (by unfold maxLen; omega) (by omega) (by simp) ?_; intro v2 w2 ho3 hg3 _))
    have hB2 := ((Below.refl w.heap.size w).alloc (Nat.le_refl _) (.cells #[] 62)).grown hg3 (by simp) (fun q hq => by simp [Value.ownBlock] at hq; omega)
    rw [Nat.zero_add, List.nil_append] at ho3
    clear hg3
    go_wp2
    go_ret
    exact ⟨_, rfl, ho3, hB2⟩
structure CutR (S g : Nat) (l : List Rul) (p : Rul → Bool) (j : Nat) (F : List Rul) (w : World) : Prop where
  out : ∃ cs : Array Value, w.heap[g]? = some (.cells cs 62 (0, 0)) ∧ (l.length * 7 ≤ cs.size ∧ cs.size = S) ∧ (∀ (t : Nat) (y : Rul), F[t]? = some y → RowAt cs t y) ∧ (∀ (t : Nat) (y : Rul), j ≤ t → l[t]? = some y → RowAt cs t y)
  eq : F = (l.take j).filter fun x => !p x
  le : F.length ≤ j
theorem CutR.below {S g : Nat} {l : List Rul} {p : Rul → Bool} {j : Nat} {F : List Rul} {w w1 : World} (h : CutR S g l p j F w) (hb : Below w.heap.size w w1) : CutR S g l p j F w1 := by
  obtain ⟨cs, h1, h2⟩ := h.out
  exact ⟨⟨cs, blk_below h1 hb, h2⟩, h.eq, h.le⟩
theorem CutR.skip {S g : Nat} {l : List Rul} {p : Rul → Bool} {j : Nat} {F : List Rul} {w : World} (h : CutR S g l p j F w) (y : Rul) (hy : l[j]? = some y) (hp : p y = true) : CutR S g l p (j + 1) F w := by
  obtain ⟨cs, h1, h2, h3, h4⟩ := h.out
  refine ⟨⟨cs, h1, h2, h3, fun t y hj ht => h4 t y (by omega) ht⟩, ?_, by have := h.le; omega⟩
  have hlt := (List.getElem?_eq_some_iff.1 hy).1
  rw [List.take_succ_eq_append_getElem hlt, List.filter_append, ← h.eq]
  have e : l[j] = y := (List.getElem?_eq_some_iff.1 hy).2
  simp [e, hp]
def laidAt (cs : Array Value) (o : Nat) : List Value → Array Value
  | [] => cs
  | v :: r => laidAt (cs.setIfInBounds o v) (o + 1) r
theorem laidAt_size : ∀ (vs : List Value) (cs : Array Value) (o : Nat), (laidAt cs o vs).size = cs.size
  | [], _, _ => rfl
  | v :: r, cs, o => by rw [laidAt, laidAt_size r]; simp
theorem laidAt_other : ∀ (vs : List Value) (cs : Array Value) (o k : Nat), (k < o ∨ o + vs.length ≤ k) → (laidAt cs o vs)[k]? = cs[k]?
  | [], _, _, _, _ => rfl
  | v :: r, cs, o, k, h => by
    rw [List.length_cons] at h
    rw [laidAt, laidAt_other r _ _ k (by omega), Array.getElem?_setIfInBounds, if_neg (by omega)]
theorem laidAt_at : ∀ (vs : List Value) (cs : Array Value) (o i : Nat) (u : Value), o + vs.length ≤ cs.size → vs[i]? = some u → (laidAt cs o vs)[o + i]? = some u
  | [], _, _, _, _, _, h => by simp at h
  | v :: r, cs, o, 0, u, hs, h => by
    simp at h
    subst h
    rw [List.length_cons] at hs
    rw [laidAt, laidAt_other r _ _ (o + 0) (by omega)]
    simp [Array.getElem?_setIfInBounds]
    omega
  | v :: r, cs, o, i + 1, u, hs, h => by
    rw [List.length_cons] at hs
    have := laidAt_at r (cs.setIfInBounds o v) (o + 1) i u (by simp; omega) (by simpa using h)
    rw [laidAt, show o + (i + 1) = o + 1 + i by omega]
    exact this
theorem setCells_laid {g : Nat} {t : TypeId} : ∀ (vs : List Value) (o : Nat) {w : World} {cs : Array Value}, w.heap[g]? = some (.cells cs t (0, 0)) → (w.setCells g o vs).heap[g]? = some (.cells (laidAt cs o vs) t (0, 0))
  | [], o, w, cs, h => h
  | v :: r, o, w, cs, h => setCells_laid r (o + 1) (blk_set h o v)
theorem below_cells {B g : Nat} {w0 : World} (hB : B ≤ g) : ∀ (vs : List Value) (o : Nat) {w : World}, Below B w0 w → Below B w0 (w.setCells g o vs)
  | [], o, w, h => h
  | v :: r, o, w, h => below_cells hB r (o + 1) (h.setCell (p := ⟨g, o, none⟩) hB v)
theorem RowAt.other {cs : Array Value} {o t : Nat} {vs : List Value} {y : Rul} (h : RowAt cs t y) (ho : t * 7 + 7 ≤ o ∨ o + vs.length ≤ t * 7) : RowAt (laidAt cs o vs) t y := by
  intro i u hu
  have hi : i < 7 := (List.getElem?_eq_some_iff.1 hu).1
  rw [laidAt_other vs cs o _ (by omega)]
  exact h i u hu
theorem CutR.keep {S g : Nat} {l : List Rul} {p : Rul → Bool} {j : Nat} {F : List Rul} {w : World} (h : CutR S g l p j F w) (y : Rul) (hy : l[j]? = some y) (hp : p y = false) : CutR S g l p (j + 1) (F ++ [y]) (w.setCells g (F.length * 7) (rcells y)) := by
  obtain ⟨cs, h1, h2, h3, h4⟩ := h.out
  have hlt := (List.getElem?_eq_some_iff.1 hy).1
  have hle := h.le
  have h7 : (rcells y).length = 7 := rfl
  refine ⟨⟨laidAt cs (F.length * 7) (rcells y), setCells_laid _ _ h1, by rw [laidAt_size]; exact h2, fun t z ht => ?_, fun t z hj ht => (h4 t z (by omega) ht).other (by omega)⟩, ?_, by simp; omega⟩
  · by_cases e : t = F.length
    · subst e
      rw [List.getElem?_append_right (Nat.le_refl _), Nat.sub_self] at ht
      simp at ht
      subst ht
      exact fun i u hu => laidAt_at _ _ _ _ _ (by omega) hu
    · have hlt2 : t < F.length := by
        have := (List.getElem?_eq_some_iff.1 ht).1
        simp at this
        omega
      rw [List.getElem?_append_left hlt2] at ht
      exact (h3 t z ht).other (by omega)
  · rw [List.take_succ_eq_append_getElem hlt, List.filter_append, ← h.eq]
    have e : l[j] = y := (List.getElem?_eq_some_iff.1 hy).2
    simp [e, hp]
theorem run_clear_rows {P : Program} (w : World) (t e ty : TypeId) (z : Value) (ht : P.underlying t = some (.slice e)) (hv : ∀ w, (zeroValue e).run P w = .ok z w) (h1 : ∀ v ∈ z.cells.toList, v.oneCell' = true) (b o n c : Nat) (hn : 0 < n)
    (hc : ∀ j, j < n * z.cells.size → (w.cell? ⟨b, o + j, none⟩).isSome = true) (hf : ∀ j, j < n * z.cells.size → w.frozen? ⟨b, o + j, none⟩ = false) :
    (Builtin.clear_ #[t] ty #[.slice (some ⟨b, o, none⟩) n c]).run P w = .ok (.tuple #[]) (w.setCells b o (Builtin.zeroCells z.cells n).toList) := by
  have hlen : (Builtin.zeroCells z.cells n).toList.length = n * z.cells.size := by simp [Builtin.zeroCells]
  have hone : ∀ v ∈ (Builtin.zeroCells z.cells n).toList, v.oneCell' = true := by
    intro v hv'
    simp [Builtin.zeroCells] at hv'
    obtain ⟨i, hi, rfl⟩ := hv'
    have hp : 0 < z.cells.size := by
      rcases Nat.eq_zero_or_pos z.cells.size with h | h
      · rw [h] at hi; omega
      · exact h
    have hm := Nat.mod_lt i hp
    rw [getElem!_pos z.cells (i % z.cells.size) hm]
    exact h1 _ (by simp)
  have hst := run_storeCells_cells (P := P) b o (Builtin.zeroCells z.cells n).toList 0 w (fun j hj => by rw [hlen] at hj; exact hc j hj) (fun j hj => by rw [hlen] at hj; exact hf j hj) hone
  simp only [Nat.add_zero] at hst
  obtain ⟨m, rfl⟩ : ∃ m, n = m + 1 := ⟨n - 1, by omega⟩
  simp [Builtin.clear_, run_underlying ht, hv, hst]
end Go.Proofs.Ytkjighagiecbaaa.H
/-! ### Rul3 -/
namespace Go.Proofs.Ytkjighagiecbaaa.H
open Go.RowKit Go.Proofs.Ytkjighagiecbaaa.P Go.Proofs.YtkjighagiecbaaaW.PrintWords Go.Proofs.YtkjighagiecbaaaW.PrintLast Go.Proofs.YtkjighagiecbaaaW.PrintMore
set_option linter.unusedVariables false
set_option linter.unusedSimpArgs false
set_option maxRecDepth 20000
theorem zeroR (w : World) : (zeroValue 62).run Try.prog w = .ok (encR ⟨0, 0, 0, 0, ⟨0, 0⟩, 0⟩) w := by kernel_rfl
def CutOf (g c : Nat) (F : List Rul) (w0 : World) (e : Ending) (w' : World) : Prop :=
  e = .returned (.slice (some ⟨g, 0, none⟩) F.length c) ∧ Below w0.heap.size w0 w' ∧ Kd.C k62 w' (some ⟨g, 0, none⟩) F.length F ∧ F.length ≤ c
set_option maxHeartbeats 4000000 in
theorem dfR_any (g c : Nat) (l : List Rul) (p : Rul → Bool) (f : Nat) (lb : Array Value) (eg : ∀ args w, (callFunc f args).run Try.prog w = .ok (.enter f args) w) (w0 w : World)
    (cs : Array Value) (hg : w.heap[g]? = some (.cells cs 62 (0, 0))) (hsz : l.length * 7 ≤ cs.size) (hcs : ∀ (t : Nat) (y : Rul), l[t]? = some y → RowAt cs t y) (hlc : l.length ≤ c) (hc : c ≤ 9223372036854775807) (hp : PredB encR p f lb (fun _ => True) w0) (hb0 : Below w0.heap.size w0 w) (hB : w0.heap.size ≤ g) :
    Calls Try.prog 54 #[.slice (some ⟨g, 0, none⟩) l.length c, .func (.func f) #[] lb] w fun e w' => CutOf g c (l.filter fun x => !p x) w0 e w' := by
  have HC0 := Aside0.mk (show CutR cs.size g l p 0 [] w from ⟨⟨cs, hg, ⟨hsz, rfl⟩, fun t y h => by simp at h, fun t y _ h => hcs t y h⟩, by simp, Nat.le_refl _⟩)
  have hrC : Kd.C k62 w (some ⟨g, 0, none⟩) l.length l := rowC hg (by omega) hcs
  have hI := idxR_any (some ⟨g, 0, none⟩) c l p f lb eg w0 w hrC (by omega) hp hb0
  have HP := Aside0.mk hp
  have HRC := Aside0.mk hrC
  have HG := Aside0.mk hg
  have HCS := Aside0.mk hcs
  have HB0 := Aside0.mk hb0
  have HS0 := Aside0.mk hb0.size
  clear hg hcs hp hrC hsz hb0
  go_enter Try.func54, Try.ntmps54
  go_wp2_with fail
  refine hI.mono ?_
  rintro e w1 ⟨hd, hb⟩
  have HB := Aside0.mk hb
  have HC1 := Aside0.mk (HC0.out.below hb)
  have HB1 := Aside0.mk (HB0.out.trans (hb.mono HS0.out))
  clear hI hb HC0
  rcases hd with ⟨hd, rfl⟩ | ⟨i, y, hi, rfl, hd, hpy, hbef⟩
  · have HF := Aside0.mk (show (l.filter fun x => !p x) = l from by
      rw [List.filter_eq_self]
      intro a ha
      have := List.any_eq_false.1 hd a ha
      simpa using this)
    clear hd
    go_wp2_with fail
    go_ret
    exact ⟨by rw [HF.out]; rfl, HB1.out, by rw [HF.out]; exact Kd.C_below HRC.out HB.out, by rw [HF.out]; exact hlc⟩
  · have hne : ((i : Int) == -1) = false := by rw [beq_eq_false_iff_ne]; omega
    have HS := Aside0.mk (show CutR cs.size g l p (i + 1) (l.take i) w1 from by
      have hk : ∀ n, n ≤ i → CutR cs.size g l p n (l.take n) w1 := by
        intro n hn
        obtain ⟨cs1, k1, k2, k3, k4⟩ := HC1.out.out
        refine ⟨⟨cs1, k1, k2, fun t z ht => ?_, fun t z _ ht => k4 t z (by omega) ht⟩, ?_, by rw [List.length_take]; omega⟩
        · have h2 := (List.getElem?_eq_some_iff.1 ht).1
          rw [List.length_take] at h2
          rw [List.getElem?_take_of_lt (by omega)] at ht
          exact k4 t z (by omega) ht
        · symm
          rw [List.filter_eq_self]
          intro a ha
          rw [hbef a (List.mem_of_mem_take (i := n) (by rw [List.take_take, Nat.min_eq_left hn]; exact ha))]
          rfl
      exact (hk i (Nat.le_refl _)).skip y hd hpy)
    have hil : (l.take i).length = i := by rw [List.length_take]; omega
    have HIL := Aside0.mk hil
    clear hil hd hpy hbef HC1
    go_wp2_with fail
    go_loopw [5, 6] (fun si sj wr => ∃ (j : Nat) (F : List Rul), i + 1 ≤ j ∧ j ≤ l.length ∧ F.length + 1 ≤ j ∧ si = .int .i64 F.length ∧ sj = .int .i64 j ∧ Aside0 (CutR cs.size g l p j F wr) ∧ Aside0 (Below w0.heap.size w0 wr)) (fun _ sj _ => l.length - (intOf sj).toNat)
    case atStart => exact ⟨i + 1, l.take i, Nat.le_refl _, by omega, by rw [HIL.out]; exact Nat.le_refl _, by rw [HIL.out], rfl, HS, HB1⟩
    case round =>
      obtain ⟨j, F, hj0, hj, hFj, rfl, rfl, HC, HGK⟩ := hrel
      by_cases hlt : j < l.length
      · have hjl : (j : Int) < (l.length : Int) := by omega
        have HY := Aside0.mk (show l[j]? = some (l[j]) from List.getElem?_eq_getElem hlt)
        have hce : RowAt (HC.out.out.choose) j l[j] := HC.out.out.choose_spec.2.2.2 j _ (Nat.le_refl _) (List.getElem?_eq_getElem hlt)
        obtain ⟨x0, x1, x2, x3, x4, x5, x6⟩ := rowAt_cells HC.out.out.choose_spec.1 hce
        have HCE := Aside0.mk hce
        generalize l[j] = y at HY x0 x1 x2 x3 x4 x5 x6
        clear hce HCE
        have hcall := HP.out (wr.alloc (.cells #[.int .i64 y.f0, .int .i64 y.f1, .int .i64 y.f2, .int .i64 y.f3, .int .u32 y.f4.f0, .int .u32 y.f4.f1, .int .i64 y.f5] 62)) y trivial (HGK.out.alloc HGK.out.size _)
        have N := Aside0.mk (blk_new wr (.cells #[.int .i64 y.f0, .int .i64 y.f1, .int .i64 y.f2, .int .i64 y.f3, .int .u32 y.f4.f0, .int .u32 y.f4.f1, .int .i64 y.f5] 62))
        have HGK2 := Aside0.mk (HGK.out.alloc HGK.out.size (.cells #[.int .i64 y.f0, .int .i64 y.f1, .int .i64 y.f2, .int .i64 y.f3, .int .u32 y.f4.f0, .int .u32 y.f4.f1, .int .i64 y.f5] 62))
        have HC2 := Aside0.mk (HC.out.below ((Below.refl _ _).alloc (Nat.le_refl _) (.cells #[.int .i64 y.f0, .int .i64 y.f1, .int .i64 y.f2, .int .i64 y.f3, .int .u32 y.f4.f0, .int .u32 y.f4.f1, .int .i64 y.f5] 62)))
        have HSZ := Aside0.mk HGK.out.size
        have HCl := Aside0.mk (show g < wr.heap.size from blk_lt HC.out.out.choose_spec.1)
        clear HC HGK
        simp only [encR] at hcall
        cases hq : p y with
        | true =>
          rw [hq] at hcall
          have HQ := Aside0.mk hq
          clear hq
          go_wp2_with fail
          generalize wr.alloc (.cells #[.int .i64 y.f0, .int .i64 y.f1, .int .i64 y.f2, .int .i64 y.f3, .int .u32 y.f4.f0, .int .u32 y.f4.f1, .int .i64 y.f5] 62) = W2 at *
          refine hcall.mono ?_
          rintro e w' ⟨rfl, hb'⟩
          have HC3 := Aside0.mk ((HC2.out.below hb').skip y HY.out HQ.out)
          have HG3 := Aside0.mk (HGK2.out.trans (hb'.mono HGK2.out.size))
          clear hcall hb' x0 x1 x2 x3 x4 x5 x6
          go_wp2_with fail
          go_roundw
          case rel => exact ⟨j + 1, F, by omega, by omega, by omega, rfl, by go_num, HC3, HG3⟩
          case measure => simp [intOf]; omega
        | false =>
          rw [hq] at hcall
          have HQ := Aside0.mk hq
          clear hq
          go_wp2_with fail
          generalize wr.alloc (.cells #[.int .i64 y.f0, .int .i64 y.f1, .int .i64 y.f2, .int .i64 y.f3, .int .u32 y.f4.f0, .int .u32 y.f4.f1, .int .i64 y.f5] 62) = W2 at *
          generalize wr.heap.size = bx at *
          refine hcall.mono ?_
          rintro e w' ⟨rfl, hb'⟩
          have hn := blk_below N.out hb'
          have z0 := blk_cell hn 0
          have z1 := blk_cell hn 1
          have z2 := blk_cell hn 2
          have z3 := blk_cell hn 3
          have z4 := blk_cell hn 4
          have z5 := blk_cell hn 5
          have z6 := blk_cell hn 6
          have hc2 := HC2.out.below hb'
          obtain ⟨cs1, k1, k2, _⟩ := hc2.out
          have hle := hc2.le
          have hget : ∀ i, i < 7 → ∃ v, w'.cell? ⟨g, F.length * 7 + i, none⟩ = some v := fun i hi => ⟨_, by rw [blk_cell k1]; exact Array.getElem?_eq_getElem (by omega)⟩
          obtain ⟨v0, o0⟩ := hget 0 (by omega)
          obtain ⟨v1, o1⟩ := hget 1 (by omega)
          obtain ⟨v2, o2⟩ := hget 2 (by omega)
          obtain ⟨v3, o3⟩ := hget 3 (by omega)
          obtain ⟨v4, o4⟩ := hget 4 (by omega)
          obtain ⟨v5, o5⟩ := hget 5 (by omega)
          obtain ⟨v6, o6⟩ := hget 6 (by omega)
          rw [Nat.add_zero] at o0
          have p0 := blk_frozen k1 (F.length * 7)
          have p1 := blk_frozen k1 (F.length * 7 + 1)
          have p2 := blk_frozen k1 (F.length * 7 + 2)
          have p3 := blk_frozen k1 (F.length * 7 + 3)
          have p4 := blk_frozen k1 (F.length * 7 + 4)
          have p5 := blk_frozen k1 (F.length * 7 + 5)
          have p6 := blk_frozen k1 (F.length * 7 + 6)
          have HC3 := Aside0.mk (hc2.keep y HY.out HQ.out)
          have HG3 := Aside0.mk (below_cells hB (rcells y) (F.length * 7) (HGK2.out.trans (hb'.mono HGK2.out.size)))
          have hF0 : (0 : Int) ≤ (F.length : Int) := by omega
          have hFl : (F.length : Int) < (l.length : Int) := by omega
          clear hcall hb' hc2 k1 k2 x0 x1 x2 x3 x4 x5 x6 hget hn
          go_wp2_with fail
          go_roundw
          case rel => exact ⟨j + 1, F ++ [y], by omega, by omega, by simp; omega, by simp, by go_num, HC3, HG3⟩
          case measure => simp [intOf]; omega
      · obtain rfl : j = l.length := by omega
        have hFle := HC.out.le
        have hE := HC.out.eq
        rw [List.take_length] at hE
        have HE := Aside0.mk hE
        have hcl : ∀ ty, (Builtin.clear_ #[26] ty #[.slice (some ⟨g, F.length * 7, none⟩) (l.length - F.length) (c - F.length)]).run Try.prog wr = .ok (.tuple #[]) (wr.setCells g (F.length * 7) (Builtin.zeroCells (encR ⟨0, 0, 0, 0, ⟨0, 0⟩, 0⟩).cells (l.length - F.length)).toList) := by
          intro ty
          obtain ⟨cs1, k1, k2, _⟩ := HC.out.out
          refine run_clear_rows wr 26 62 ty (encR ⟨0, 0, 0, 0, ⟨0, 0⟩, 0⟩) Try.underlying26 zeroR (by decide) g (F.length * 7) _ _ (by omega) (fun j hj => ?_) (fun j hj => ?_)
          · rw [show (encR ⟨0, 0, 0, 0, ⟨0, 0⟩, 0⟩).cells.size = 7 from rfl] at hj
            rw [blk_cell k1, Array.getElem?_eq_getElem (by omega)]; rfl
          · exact blk_frozen k1 _
        have HW := Aside0.mk (show Kd.C k62 (wr.setCells g (F.length * 7) (Builtin.zeroCells (encR ⟨0, 0, 0, 0, ⟨0, 0⟩, 0⟩).cells (l.length - F.length)).toList) (some ⟨g, 0, none⟩) F.length F from by
          obtain ⟨cs1, k1, k2, k3, _⟩ := HC.out.out
          refine rowC (setCells_laid _ _ k1) (by omega) fun t y hy => (k3 t y hy).other (.inl ?_)
          have := (List.getElem?_eq_some_iff.1 hy).1
          omega)
        have HG2 := Aside0.mk (below_cells hB (Builtin.zeroCells (encR ⟨0, 0, 0, 0, ⟨0, 0⟩, 0⟩).cells (l.length - F.length)).toList (F.length * 7) HGK.out)
        have hjf : ¬ ((l.length : Int) < (l.length : Int)) := by omega
        generalize (wr.setCells g (F.length * 7) (Builtin.zeroCells (encR ⟨0, 0, 0, 0, ⟨0, 0⟩, 0⟩).cells (l.length - F.length)).toList) = w2 at *
        clear hE
        go_wp2
        go_ret
        exact ⟨by rw [← HE.out]; rfl, HG2.out, by rw [← HE.out]; exact HW.out, by rw [← HE.out]; omega⟩
end Go.Proofs.Ytkjighagiecbaaa.H
