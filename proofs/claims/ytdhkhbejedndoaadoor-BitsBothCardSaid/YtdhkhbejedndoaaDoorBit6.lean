/- both, And, Or, Minus: walked. -/
import Derived.Test.YtdhkhbejedndoaaDoorBit5
import Derived.Laws.BitsAllLaws
namespace Go.Proofs.YtdhkhbejedndoaaDoor.H
open Go.RowKit Go.Proofs.YtdhkhbejedndoaaDoor.P Go.Proofs.YtdhkhbejedndoaaDoorW.PrintWords Go.Proofs.YtdhkhbejedndoaaDoorW.PrintLast Go.Proofs.YtdhkhbejedndoaaDoorW.PrintMore
set_option linter.unusedVariables false
set_option linter.unusedSimpArgs false
theorem and_any (a b : Int) (w : World) : Calls Tryd.prog 32 #[.int .u64 a, .int .u64 b] w fun e w' => e = .returned (.int .u64 (Go.bits .and .u64 a b)) ∧ w' = w := by
  go_enter Tryd.func32, Tryd.ntmps32
  go_wp2_with fail
  go_ret
  exact ⟨rfl, rfl⟩
theorem or_any (a b : Int) (w : World) : Calls Tryd.prog 30 #[.int .u64 a, .int .u64 b] w fun e w' => e = .returned (.int .u64 (Go.bits .or .u64 a b)) ∧ w' = w := by
  go_enter Tryd.func30, Tryd.ntmps30
  go_wp2_with fail
  go_ret
  exact ⟨rfl, rfl⟩
theorem minus_any (a b : Int) (w : World) : Calls Tryd.prog 33 #[.int .u64 a, .int .u64 b] w fun e w' => e = .returned (.int .u64 (Go.bits .andNot .u64 a b)) ∧ w' = w := by
  go_enter Tryd.func33, Tryd.ntmps33
  go_wp2_with fail
  go_ret
  exact ⟨rfl, rfl⟩
theorem wN_diff (f g : Nat → Bool) (n : Nat) : wN f n &&& (2 ^ n - 1 - wN g n) = wN (fun i => f i && !g i) n := by
  refine (wN_ext ?_ fun i hi => ?_).symm
  · exact Nat.lt_of_le_of_lt Nat.and_le_left (wN_lt f n)
  · have hlt := wN_lt g n
    have e : 2 ^ n - 1 - wN g n = 2 ^ n - (wN g n + 1) := by omega
    rw [Nat.testBit_and, wN_bit, e, Nat.testBit_two_pow_sub_succ hlt, wN_bit]
    simp [hi]
theorem andNot_nat (a b : Nat) (ha : a < 18446744073709551616) (hb : b < 18446744073709551616) : Go.bits .andNot .u64 (a : Int) (b : Int) = ((a &&& (18446744073709551616 - 1 - b) : Nat) : Int) := by
  rw [u64_andNot_nat a b ha hb]
/-- Two sets, word by word. -/
def bothM (f : Bool → Bool → Bool) (m1 m2 : List Bool) : List Bool := (List.range m1.length).map fun i => f (m1.getD i false) (m2.getD i false)
theorem bothM_len (f : Bool → Bool → Bool) (m1 m2 : List Bool) : (bothM f m1 m2).length = m1.length := by unfold bothM; rw [List.length_map, List.length_range]
theorem bothM_at (f : Bool → Bool → Bool) (hf : f false false = false) (m1 m2 : List Bool) (hl : m2.length = m1.length) (i : Nat) : (bothM f m1 m2).getD i false = f (m1.getD i false) (m2.getD i false) := by
  unfold bothM
  rw [List.getD_eq_getElem?_getD, List.getElem?_map]
  rcases Nat.lt_or_ge i m1.length with h | h
  · rw [List.getElem?_range h]; rfl
  · rw [List.getElem?_eq_none (by rw [List.length_range]; exact h), List.getD_eq_getElem?_getD, List.getD_eq_getElem?_getD, List.getElem?_eq_none h, List.getElem?_eq_none (by omega)]
    exact hf.symm
theorem word_and (m1 m2 : List Bool) (hl : m2.length = m1.length) (j : Nat) : Go.bits .and .u64 ((wordN m1 j : Nat) : Int) ((wordN m2 j : Nat) : Int) = ((wordN (bothM (· && ·) m1 m2) j : Nat) : Int) := by
  rw [and_nat _ _ (wordN_lt _ _) (wordN_lt _ _)]
  congr 1
  unfold wordN
  rw [wN_and]
  exact wN_congr fun i _ => (bothM_at (· && ·) rfl m1 m2 hl _).symm
theorem word_or (m1 m2 : List Bool) (hl : m2.length = m1.length) (j : Nat) : Go.bits .or .u64 ((wordN m1 j : Nat) : Int) ((wordN m2 j : Nat) : Int) = ((wordN (bothM (· || ·) m1 m2) j : Nat) : Int) := by
  rw [bits_or_u64_nat _ _ (wordN_lt _ _) (wordN_lt _ _)]
  congr 1
  unfold wordN
  rw [wN_or]
  exact wN_congr fun i _ => (bothM_at (· || ·) rfl m1 m2 hl _).symm
theorem word_minus (m1 m2 : List Bool) (hl : m2.length = m1.length) (j : Nat) : Go.bits .andNot .u64 ((wordN m1 j : Nat) : Int) ((wordN m2 j : Nat) : Int) = ((wordN (bothM (fun a b => a && !b) m1 m2) j : Nat) : Int) := by
  rw [andNot_nat _ _ (wordN_lt _ _) (wordN_lt _ _)]
  congr 1
  unfold wordN
  have := wN_diff (fun b => m1.getD (64 * j + b) false) (fun b => m2.getD (64 * j + b) false) 64
  rw [show (2 : Nat) ^ 64 = 18446744073709551616 from by decide] at this
  rw [this]
  exact wN_congr fun i _ => (bothM_at (fun a b => a && !b) rfl m1 m2 hl _).symm
/-- The words of one set up to a place, then those of another one. -/
def mixW (m3 m1 : List Bool) (j : Nat) : List Int := (List.range ((m1.length + 63) / 64)).map fun i => if i < j then ((wordN m3 i : Nat) : Int) else ((wordN m1 i : Nat) : Int)
theorem mixW_len (m3 m1 : List Bool) (j : Nat) : (mixW m3 m1 j).length = (m1.length + 63) / 64 := by unfold mixW; rw [List.length_map, List.length_range]
theorem mixW_zero (m3 m1 : List Bool) : mixW m3 m1 0 = wordsOf m1 := by unfold mixW wordsOf; simp
theorem mixW_end (m3 m1 : List Bool) (hl : m3.length = m1.length) : mixW m3 m1 ((m1.length + 63) / 64) = wordsOf m3 := by
  unfold mixW wordsOf
  rw [hl]
  apply List.map_congr_left
  intro i hi
  rw [if_pos (List.mem_range.1 hi)]
theorem mixW_get (m3 m1 : List Bool) (j i : Nat) (h : i < (m1.length + 63) / 64) : (mixW m3 m1 j)[i]? = some (if i < j then ((wordN m3 i : Nat) : Int) else ((wordN m1 i : Nat) : Int)) := by
  unfold mixW
  rw [List.getElem?_map, List.getElem?_range h]
  rfl
theorem mixW_next (m3 m1 : List Bool) (j : Nat) (h : j < (m1.length + 63) / 64) : (mixW m3 m1 j).set j ((wordN m3 j : Nat) : Int) = mixW m3 m1 (j + 1) := by
  apply List.ext_getElem?
  intro i
  rw [List.getElem?_set]
  rcases Nat.lt_or_ge i ((m1.length + 63) / 64) with hi | hi
  · rw [mixW_get _ _ _ _ hi, mixW_get _ _ _ _ hi]
    by_cases e : j = i
    · subst e; rw [if_pos rfl, mixW_len]; simp [hi]
    · rw [if_neg e]
      by_cases c : i < j
      · rw [if_pos c, if_pos (by omega)]
      · rw [if_neg c, if_neg (by omega)]
  · rw [List.getElem?_eq_none (by rw [mixW_len]; exact hi), List.getElem?_eq_none (by rw [mixW_len]; exact hi)]
    by_cases e : j = i
    · omega
    · rw [if_neg e]
end Go.Proofs.YtdhkhbejedndoaaDoor.H
