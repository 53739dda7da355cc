import Derived.Test.YtglfpobapkkgdaaTopo9
import Derived.Test.YtglfpobapkkgdaaTopoP
namespace Go.Proofs.Ytglfpobapkkgdaa.H
open Go.RowKit Go.Proofs.Ytglfpobapkkgdaa.P Go.Proofs.YtglfpobapkkgdaaW.PrintWords Go.Proofs.YtglfpobapkkgdaaW.PrintLast Go.Proofs.YtglfpobapkkgdaaW.PrintMore
set_option linter.unusedVariables false
set_option linter.unusedSimpArgs false
def fitsB (l0 : List Int) (l1 : List S38) : Bool := decide ((l0.length : Int) ≤ 30) && decide ((l1.length : Int) ≤ 30)
theorem fitsLaw_any (A0 : Option Addr) (c0 : Nat) (l0 : List Int) (A1 : Option Addr) (c1 : Nat) (l1 : List S38) (w : World) (hm0 : l0.length ≤ 9223372036854775807) (hm1 : l1.length ≤ 9223372036854775807) :
    Calls Try.prog 7 #[.agg #[.slice A0 l0.length c0, .slice A1 l1.length c1]] w fun e w' => e = .returned (.bool (fitsB l0 l1)) ∧ Below w.heap.size w w' := by
  have hu25 := Try.underlying25
  cases d1 : decide ((l0.length : Int) ≤ 30) with
  | true =>
    have E : Aside0 (fitsB l0 l1 = decide ((l1.length : Int) ≤ 30)) := ⟨by rw [fitsB, d1, Bool.true_and]⟩
    rw [E.out]
    go_enter Try.func7, Try.ntmps7
    go_wp2
    go_ret
    exact ⟨rfl, (Below.refl _ _).alloc (Nat.le_refl _) _⟩
  | false =>
    have E : Aside0 (fitsB l0 l1 = false) := ⟨by rw [fitsB, d1, Bool.false_and]⟩
    rw [E.out]
    go_enter Try.func7, Try.ntmps7
    go_wp2
    go_ret
    exact ⟨rfl, (Below.refl _ _).alloc (Nat.le_refl _) _⟩
/-- What a right topology is. -/
structure RightT (l0 : List Int) (l1 : List S38) : Prop where
  n8 : l0.length ≤ 8
  l16 : l1.length ≤ 16
  has : ∀ l, l ∈ l1 → hasB l0 l.f0 = true ∧ hasB l0 l.f1 = true
  ports : ∀ n, n ∈ l0 → 1 ≤ n ∧ n ≤ 4
  nodup : (ports2 (l1.map fun l => (l.f0, l.f1))).Nodup
  pos : 0 < l0.length
theorem joinL_jn (l1 : List S38) : joinL l1 = jn [] (l1.map fun l => (l.f0, l.f1)) := by
  unfold joinL
  generalize ([] : List (S27 × S27)) = L
  induction l1 generalizing L with
  | nil => rfl
  | cons l t ih => rw [List.foldl_cons, ih]; rfl
theorem right_iff (l0 : List Int) (l1 : List S38) : rightB l0 l1 = true ↔ RightT l0 l1 := by
  have hj : (joinL l1).length = 2 * l1.length ↔ (ports2 (l1.map fun l => (l.f0, l.f1))).Nodup := by
    have h := jn_nodup (l1.map fun l => (l.f0, l.f1))
    rw [List.length_map] at h
    rw [joinL_jn, h]
  unfold rightB
  constructor
  · intro h
    split at h
    · cases h
    split at h
    · cases h
    split at h
    · cases h
    split at h
    · cases h
    split at h
    · cases h
    rename_i h1 h2 h3 h4 h5
    simp only [decide_eq_true_iff] at h
    refine ⟨by omega, by omega, fun l hl => ?_, fun n hn => ?_, hj.1 h, by omega⟩
    · have := (List.any_eq_false.1 (by simpa using h5)) l hl
      simp [badL] at this
      simp [this]
    · have := (List.any_eq_false.1 (by simpa using h4)) n hn
      simp [badI] at this
      omega
  · intro h
    have hp := h.pos
    rw [if_neg (by omega), if_neg (by have := h.n8; omega), if_neg (by have := h.l16; omega), if_neg, if_neg, decide_eq_true_iff]
    · exact hj.2 h.nodup
    · intro hc
      obtain ⟨l, hl, hb⟩ := List.any_eq_true.1 hc
      have := h.has l hl
      simp [badL, this.1, this.2] at hb
      have hne : ∀ t : List S38, l ∈ t → ¬ (ports2 (t.map fun l => (l.f0, l.f1))).Nodup := by
        intro t
        induction t with
        | nil => simp
        | cons x t ih =>
          intro hm hd
          simp only [List.map_cons, ports2, List.nodup_cons, List.mem_cons] at hd
          rcases List.mem_cons.1 hm with rfl | hm
          · exact hd.1 (.inl hb)
          · exact ih hm hd.2.2
      exact hne l1 hl h.nodup
    · intro hc
      obtain ⟨n, hn, hb⟩ := List.any_eq_true.1 hc
      have := h.ports n hn
      simp [badI] at hb
      omega
theorem hasB_iff (l0 : List Int) (p : S27) : hasB l0 p = true ↔ (0 ≤ p.f0 ∧ p.f0 < l0.length ∧ 0 ≤ p.f1 ∧ p.f1 < rdOf 0 l0 p.f0) := by
  simp [hasB, and_assoc]
theorem RightT.ranged {l0 : List Int} {l1 : List S38} (h : RightT l0 l1) : Ranged (devs l1) l0.length := ⟨fun x hx => by
  obtain ⟨l, hl, rfl⟩ := List.mem_map.1 hx
  have h1 := h.has l hl
  have h2 := (hasB_iff _ _).1 h1.1
  have h3 := (hasB_iff _ _).1 h1.2
  exact ⟨h2.1, h2.2.1, h3.1, h3.2.1⟩⟩
/-- A topology that came in, and a second argument's box. -/
structure TB (b0 b1 : Nat) (A0 : Option Addr) (c0 : Nat) (l0 : List Int) (A1 : Option Addr) (c1 : Nat) (l1 : List S38) (O : Array Value) (T : Nat) (w0 w : World) : Prop where
  t_ : w.heap[b0]? = some (.cells #[.slice A0 l0.length c0, .slice A1 l1.length c1] 25 (0, 0))
  o_ : w.heap[b1]? = some (.cells O T (0, 0))
  bel : Below w0.heap.size w0 w
  r0 : Kd.C (Kd.int .i64) w A0 l0.length l0
  r1 : Kd.C k38 w A1 l1.length l1
theorem TB.below {b0 b1 : Nat} {A0 : Option Addr} {c0 : Nat} {l0 : List Int} {A1 : Option Addr} {c1 : Nat} {l1 : List S38} {O : Array Value} {T : Nat} {w0 w w1 : World} (h : TB b0 b1 A0 c0 l0 A1 c1 l1 O T w0 w) (hb : Below w.heap.size w w1) : TB b0 b1 A0 c0 l0 A1 c1 l1 O T w0 w1 :=
  ⟨blk_below h.t_ hb, blk_below h.o_ hb, h.bel.trans (hb.mono h.bel.size), Kd.C_below h.r0 hb, Kd.C_below h.r1 hb⟩
theorem TB.start (w : World) (A0 : Option Addr) (c0 : Nat) (l0 : List Int) (A1 : Option Addr) (c1 : Nat) (l1 : List S38) (O : Array Value) (T : Nat) (hr0 : Kd.C (Kd.int .i64) w A0 l0.length l0) (hr1 : Kd.C k38 w A1 l1.length l1) :
    TB w.heap.size (w.heap.size + 1) A0 c0 l0 A1 c1 l1 O T w ((w.alloc (.cells #[.slice A0 l0.length c0, .slice A1 l1.length c1] 25)).alloc (.cells O T)) := by
  have hb := ((Below.refl w.heap.size w).alloc (Nat.le_refl _) (.cells #[.slice A0 l0.length c0, .slice A1 l1.length c1] 25)).alloc (by simp) (.cells O T)
  refine ⟨?_, ?_, hb, Kd.C_below hr0 hb, Kd.C_below hr1 hb⟩
  · rw [heap_alloc_get, sz_alloc, if_neg (by omega), heap_alloc_get, if_pos rfl]
  · rw [heap_alloc_get, sz_alloc, if_pos rfl]
theorem connB_self (n : Nat) (l1 : List S38) (a : Int) : connB n l1 a a = (decide (0 ≤ a) && decide (a < n)) := by
  rw [Bool.eq_iff_iff, connB_iff]
  simp only [Bool.and_eq_true, decide_eq_true_iff]
  exact ⟨fun h => ⟨h.range.1, h.range.2.1⟩, fun h => .self h.1 h.2⟩
theorem connB_symm (n : Nat) (l1 : List S38) (a b : Int) : connB n l1 a b = connB n l1 b a := by
  rw [Bool.eq_iff_iff, connB_iff, connB_iff]
  exact ⟨Conn.symm, Conn.symm⟩
theorem connB_trans (n : Nat) (l1 : List S38) (a b c : Int) (h : connB n l1 a b = true) (g : connB n l1 b c = true) : connB n l1 a c = true := by
  rw [connB_iff] at *
  exact h.trans g
theorem connB_link {l0 : List Int} {l1 : List S38} (h : RightT l0 l1) (j : Nat) (hj : j < l1.length) : connB l0.length l1 (rd_T38 l1 (j : Int)).f0.f0 (rd_T38 l1 (j : Int)).f1.f0 = true := by
  have hm := link_at l1 j hj
  have hr := h.ranged.all _ hm
  rw [connB_iff]
  exact .step (.self hr.1 hr.2.1) (.inl hm) hr.2.2.1 hr.2.2.2
end Go.Proofs.Ytglfpobapkkgdaa.H
