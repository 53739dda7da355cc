/- Sets of small numbers as words; Size, New, TrailingZeros64: walked. -/
import Derived.Test.YtdhkhbejedndoaaDoorBit2
import Derived.Test.YtdhkhbejedndoaaDoorReg
import Derived.Deep.DeepCutAuto
import Derived.BigQuiet
import Derived.Shelf.Spec.TrailingZeros
namespace Go.Proofs.YtdhkhbejedndoaaDoor.H
open Go.RowKit Go.Proofs.YtdhkhbejedndoaaDoor.P Go.Proofs.YtdhkhbejedndoaaDoorW.PrintWords Go.Proofs.YtdhkhbejedndoaaDoorW.PrintLast Go.Proofs.YtdhkhbejedndoaaDoorW.PrintMore
attribute [local go_sem] max2_int min2_int max_two min_two
set_option linter.unusedVariables false
set_option linter.unusedSimpArgs false
/-! ### words -/
def wordN (m : List Bool) (j : Nat) : Nat := wN (fun b => m.getD (64 * j + b) false) 64
def wordsOf (m : List Bool) : List Int := (List.range ((m.length + 63) / 64)).map fun j => ((wordN m j : Nat) : Int)
theorem wordN_lt (m : List Bool) (j : Nat) : wordN m j < 18446744073709551616 := wN_lt _ 64
theorem wordsOf_len (m : List Bool) : (wordsOf m).length = (m.length + 63) / 64 := by unfold wordsOf; rw [List.length_map, List.length_range]
theorem wordsOf_at (m : List Bool) (j : Nat) (h : j < (m.length + 63) / 64) : rd (wordsOf m) (j : Int) = ((wordN m j : Nat) : Int) := by
  unfold rd wordsOf
  rw [Int.toNat_natCast, List.getD_eq_getElem?_getD, List.getElem?_map, List.getElem?_range h]
  rfl
theorem wordsOf_none (n : Nat) : wordsOf (List.replicate n false) = List.replicate ((n + 63) / 64) 0 := by
  unfold wordsOf
  rw [List.length_replicate]
  apply List.ext_getElem
  · rw [List.length_map, List.length_range, List.length_replicate]
  · intro i h1 h2
    rw [List.getElem_map, List.getElem_range, List.getElem_replicate]
    unfold wordN
    rw [show (fun b => (List.replicate n false).getD (64 * i + b) false) = fun _ => false from funext fun b => by
      rw [List.getD_eq_getElem?_getD, List.getElem?_replicate]; split <;> rfl, wN_zero]
    rfl
theorem getD_set (m : List Bool) (i p : Nat) (hi : i < m.length) : (m.set i true).getD p false = (m.getD p false || decide (p = i)) := by
  rw [List.getD_eq_getElem?_getD, List.getD_eq_getElem?_getD, List.getElem?_set]
  by_cases e : i = p
  · subst e; simp [hi]
  · rw [if_neg e]; simp [show ¬ p = i by omega]
theorem wordsOf_get (m : List Bool) (j : Nat) (h : j < (wordsOf m).length) : (wordsOf m)[j] = ((wordN m j : Nat) : Int) := by
  have hj : j < (m.length + 63) / 64 := by rw [← wordsOf_len]; exact h
  have h2 : (wordsOf m)[j]? = some ((wordN m j : Nat) : Int) := by unfold wordsOf; rw [List.getElem?_map, List.getElem?_range hj]; rfl
  exact (List.getElem?_eq_some_iff.1 h2).2
theorem wordsOf_set (m : List Bool) (i : Nat) (hi : i < m.length) : wordsOf (m.set i true) = (wordsOf m).set (i / 64) ((wordN m (i / 64) ||| 2 ^ (i % 64) : Nat) : Int) := by
  have hl : (m.set i true).length = m.length := List.length_set ..
  apply List.ext_getElem
  · rw [List.length_set, wordsOf_len, wordsOf_len, hl]
  · intro j h1 h2
    rw [List.getElem_set]
    have hj : j < (m.length + 63) / 64 := by rw [wordsOf_len, hl] at h1; exact h1
    rw [wordsOf_get, wordsOf_get]
    split
    · rename_i e
      subst e
      congr 1
      unfold wordN
      rw [wN_set _ _ _ (Nat.mod_lt _ (by decide))]
      apply wN_congr
      intro b hb
      rw [getD_set m i _ hi]
      congr 1
      simp only [decide_eq_decide]
      omega
    · rename_i e
      congr 1
      unfold wordN
      apply wN_congr
      intro b hb
      rw [getD_set m i _ hi, show decide (64 * j + b = i) = false from decide_eq_false (by omega), Bool.or_false]
/-! ### sets in the heap -/
/-- A set, by its pointer. -/
def SetAt (W : World) (P : Option Addr) (m : List Bool) : Prop := (P = none ∧ m = []) ∨ ∃ g A c, P = some ⟨g, 0, none⟩ ∧ W.heap[g]? = some (.cells #[.int .i64 (m.length : Nat), .slice A (wordsOf m).length c] 54 (0, 0)) ∧ (wordsOf m).length ≤ c ∧ Kd.C (Kd.int .u64) W A (wordsOf m).length (wordsOf m)
theorem SetAt.below {W W' : World} {P : Option Addr} {m : List Bool} (h : SetAt W P m) (hb : Below W.heap.size W W') : SetAt W' P m := by
  rcases h with h | ⟨g, A, c, h1, h2, h3, h4⟩
  · exact .inl h
  · exact .inr ⟨g, A, c, h1, blk_below h2 hb, h3, Kd.C_below h4 hb⟩
/-- A set of the call's own, that may still be written. -/
def OwnSet (W : World) (g base : Nat) (m : List Bool) : Prop := ∃ v, W.heap[g]? = some (.cells #[.int .i64 (m.length : Nat), v] 54 (0, 0)) ∧ base ≤ g ∧ Kd.R (Kd.int .u64) 51 W base (fun _ => True) v (wordsOf m)
theorem OwnSet.to {W : World} {g base : Nat} {m : List Bool} (h : OwnSet W g base m) : SetAt W (some ⟨g, 0, none⟩) m := by
  obtain ⟨v, h1, _, h2⟩ := h
  obtain ⟨A, c, rfl, hc, hC⟩ := Kd.R_reads h2
  exact .inr ⟨g, A, c, rfl, h1, hc, hC⟩
theorem OwnSet.below {W W' : World} {g base : Nat} {m : List Bool} (h : OwnSet W g base m) (hb : Below W.heap.size W W') : OwnSet W' g base m := by
  obtain ⟨v, h1, h2, h3⟩ := h
  exact ⟨v, blk_below h1 hb, h2, Kd.R_below h3 hb⟩
theorem below_drewN {B : Nat} {w w1 : World} (h : Below B w w1) (n : Nat) : Below B w (w1.drewN n) := ⟨h.os, h.tape, h.output, h.size, h.block⟩
theorem cb {W V : World} {a : Addr} {u : Value} (h : W.cell? a = some u) (hb : Below W.heap.size W V) : V.cell? a = some u := by
  have := hb.block a.block (World.block_lt_of_cell? W a h)
  simpa [World.cell?, this] using h
theorem size_any (P : Option Addr) (m : List Bool) (w : World) (h : SetAt w P m) :
    Calls Tryd.prog 17 #[.pointer P] w fun e w' => e = .returned (.int .i64 (m.length : Nat)) ∧ w' = w := by
  rcases h with ⟨rfl, rfl⟩ | ⟨g, A, c, rfl, hg, _, _⟩
  · go_enter Tryd.func17, Tryd.ntmps17
    go_wp2_with fail
    go_ret
    exact ⟨rfl, rfl⟩
  · have c0 := blk_cell hg 0
    generalize ((m.length : Nat) : Int) = n at *
    clear hg
    go_enter Tryd.func17, Tryd.ntmps17
    go_wp2_with fail
    go_ret
    exact ⟨rfl, rfl⟩
theorem info51 : (Tryd.prog.info? 51).map (fun i => (i.zero, i.size, i.bytes)) = some (some (.int .u64 0), 1, 8) := by kernel_rfl
theorem new_no (size : Int) (w : World) (h : size < 0 ∨ 1024 < size) :
    Calls Tryd.prog 24 #[.int .i64 size] w fun e w' => e = .returned (.tuple #[.pointer none, .int .i64 61]) ∧ w' = w := by
  rcases h with h | h
  · go_enter Tryd.func24, Tryd.ntmps24
    go_wp2_with fail
    go_ret2
    exact ⟨rfl, rfl⟩
  · have h' : ¬ size < 0 := by omega
    go_enter Tryd.func24, Tryd.ntmps24
    go_wp2_with fail
    go_ret2
    exact ⟨rfl, rfl⟩
set_option maxHeartbeats 1600000 in
theorem new_yes (n : Nat) (w : World) (h : n ≤ 1024) :
    Calls Tryd.prog 24 #[.int .i64 (n : Nat)] w fun e w' => (∃ g, e = .returned (.tuple #[.pointer (some ⟨g, 0, none⟩), .int .i64 0]) ∧ OwnSet w' g w.heap.size (List.replicate n false)) ∧ Below w.heap.size w w' := by
  have HB := Aside0.mk (Below.refl w.heap.size w)
  have HQ := Aside0.mk (show (((n : Int) + 64 - 1) / 64).toNat = (n + 63) / 64 from by omega)
  have h1 : 0 ≤ (((n : Int) + 64 - 1) / 64) := by omega
  have h2 : (((n : Int) + 64 - 1) / 64).toNat * 8 ≤ 281474976710656 := by omega
  have H1 := Aside0.mk h1
  have H2 := Aside0.mk h2
  have g1 : ¬ (n : Int) < 0 := by omega
  have g2 : ¬ (1024 : Int) < (n : Int) := by omega
  clear h1 h2
  go_enter Tryd.func24, Tryd.ntmps24
  go_wp2_with (first | ((with_reducible refine gate_dst (N := 15) rfl ?_); refine Kd.R_make (Kd.int .u64) _ 51 rfl (N := 15) rfl 52 _ _ rfl _ rfl rfl Tryd.underlying52 (.int .u64 0) 8 info51 rfl (by decide) (by omega) 0 (ok := fun _ => True) (okp := fun _ => True) rfl (fun _ hk => hk) trivial ?m1 ?m2 (Below.refl _ _) (Nat.le_refl _) ?_; (case m1 => exact H1.out); (case m2 => exact H2.out); intro v1 w1 ho hb hg_ hnew_; clear hg_ hnew_; have HO := Aside0.mk ho; have HB1 := Aside0.mk hb; clear ho hb; obtain ⟨A1, c1, rfl⟩ := Kd.R_slice HO.out))
  go_ret2
  have h1 := HO.out
  rw [HQ.out, List.length_replicate, ← wordsOf_none] at h1
  exact ⟨⟨w1.heap.size, rfl, .slice A1 ((n + 63) / 64) c1, by rw [List.length_replicate]; exact blk_new w1 _, HB1.out.size, Kd.R_below h1 ((Below.refl _ w1).alloc (Nat.le_refl _) _)⟩, HB1.out.alloc HB1.out.size _⟩
/-! ### trailing zeros -/
set_option maxHeartbeats 1600000 in
theorem tz_core (x k idx : Nat) (w : World) (hx0 : ((x : Int) == 0) = false)
    (key : IntKind.u64.wrap (bits BinOp.and IntKind.u64 (x : Int) (IntKind.u64.wrap (-(x : Int))) * 285870213051353865) / 288230376151711744 = (idx : Int))
    (hi : idx < 64) (hk : k < 64) (hcell : w.cell? ⟨0, idx, none⟩ = some (.int .u8 k)) :
    Calls Tryd.prog 26 #[.int .u64 x] w fun e w' => e = .returned (.int .i64 k) ∧ w' = w := by
  go_enter Tryd.func26, Tryd.ntmps26
  go_wp2_with (simp only [key])
  go_ret
  exact ⟨rfl, rfl⟩
theorem tz_any (x : Nat) (hx : x < 18446744073709551616) (h0 : x ≠ 0) (w : World) (hT : TabAt 0 Lib.deBruijn64tab w) :
    Calls Tryd.prog 26 #[.int .u64 x] w fun e w' => e = .returned (.int .i64 (Lib.ctz 64 x)) ∧ w' = w := by
  obtain ⟨hlow, hk⟩ := Lib.lowest_bit 64 x h0 hx
  obtain ⟨hi, htab⟩ := Lib.deBruijn64_at _ hk
  have hcell := hT _ hi
  rw [htab] at hcell
  exact tz_core x _ _ w (by simp; omega) (tz64_key x _ hx h0 hlow) hi hk hcell
theorem tab_below {w w' : World} (h : TabAt 0 Lib.deBruijn64tab w) (hb : Below w.heap.size w w') : TabAt 0 Lib.deBruijn64tab w' := fun j hj => cb (h j hj) hb
end Go.Proofs.YtdhkhbejedndoaaDoor.H
