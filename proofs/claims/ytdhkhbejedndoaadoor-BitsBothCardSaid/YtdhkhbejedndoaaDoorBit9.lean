/- Has, Next: walked. -/
import Derived.Test.YtdhkhbejedndoaaDoorBit8
namespace Go.Proofs.YtdhkhbejedndoaaDoor.H
open Go.RowKit Go.Proofs.YtdhkhbejedndoaaDoor.P Go.Proofs.YtdhkhbejedndoaaDoorW.PrintWords Go.Proofs.YtdhkhbejedndoaaDoorW.PrintLast Go.Proofs.YtdhkhbejedndoaaDoorW.PrintMore
attribute [local go_sem] max2_int min2_int max_two min_two
set_option linter.unusedVariables false
set_option linter.unusedSimpArgs false
def hasM (m : List Bool) (i : Int) : Bool := decide (0 ≤ i) && decide (i < (m.length : Int)) && m.getD i.toNat false
theorem wordN_bit (m : List Bool) (j s : Nat) (hs : s < 64) : (wordN m j).testBit s = m.getD (64 * j + s) false := by
  unfold wordN
  rw [wN_bit]; simp [hs]
theorem shr_bit (x s : Nat) : (x / 2 ^ s) % 2 = if x.testBit s then 1 else 0 := by
  rw [Nat.testBit_eq_decide_div_mod_eq]
  have := Nat.mod_two_eq_zero_or_one (x / 2 ^ s)
  rcases this with h | h <;> rw [h] <;> simp
set_option maxRecDepth 20000 in
set_option maxHeartbeats 1600000 in
theorem Has_any (m : List Bool) (P : Option Addr) (i : Int) (w : World) (h : SetAt w P m) (hm : m.length ≤ 1024) :
    Calls Tryd.prog 12 #[.pointer P, .int .i64 i] w fun e w' => e = .returned (.bool (hasM m i)) ∧ w' = w := by
  have hsz := size_any P m w h
  by_cases h0 : i < 0
  · have HE := Aside0.mk (show hasM m i = false from by unfold hasM; rw [decide_eq_false (by omega)]; rfl)
    have h0' : ¬ 0 ≤ i := by omega
    clear hsz h hm
    go_enter Tryd.func12, Tryd.ntmps12
    go_wp2_with fail
    go_ret
    exact ⟨by rw [HE.out]; rfl, rfl⟩
  · have h0' : 0 ≤ i := by omega
    by_cases hlt : i < (m.length : Int)
    · obtain ⟨k, rfl⟩ : ∃ k : Nat, i = (k : Int) := ⟨i.toNat, by omega⟩
      have hk : k / 64 < (m.length + 63) / 64 := by omega
      obtain ⟨g, a, c, rfl, _, x1, x2, _⟩ := set_word h (Below.refl _ _) (k / 64) hk
      have HE := Aside0.mk (show hasM m (k : Int) = m.getD k false from by unfold hasM; rw [decide_eq_true h0', decide_eq_true hlt, Int.toNat_natCast]; rfl)
      have HB := Aside0.mk (show (wordN m (k / 64) / 2 ^ (k % 64)) % 2 = if m.getD k false then 1 else 0 from by
        rw [shr_bit, wordN_bit m _ _ (Nat.mod_lt _ (by decide)), show 64 * (k / 64) + k % 64 = k by omega])
      have hwl : (wordsOf m).length ≤ 100 := by rw [wordsOf_len]; omega
      have hkw : k / 64 < (wordsOf m).length := by rw [wordsOf_len]; exact hk
      have hq2 : (k : Int) / 64 = ((k / 64 : Nat) : Int) := by omega
      have hm2 : (k : Int) % 64 = ((k % 64 : Nat) : Int) := by omega
      have hr64 : k % 64 < 64 := Nat.mod_lt _ (by decide)
      have hw := wordN_lt m (k / 64)
      generalize hqq : k / 64 = q at *
      generalize hss : k % 64 = s at *
      generalize (wordsOf m).length = nw at *
      generalize hW : wordN m q = W at *
      have hkw1 : (q : Int) < (nw : Int) := by omega
      generalize ((m.length : Nat) : Int) = n at *
      clear h hm hk hqq hss hW hkw
      go_enter Tryd.func12, Tryd.ntmps12
      go_wp2_with fail
      refine hsz.mono ?_
      rintro e w1 ⟨rfl, rfl⟩
      clear hsz
      go_wp2_with fail
      go_ret
      have e1 : ((W : Int) / 2 ^ s) = ((W / 2 ^ s : Nat) : Int) := by simp
      have e2 : Go.bits .and .u64 ((W : Int) / 2 ^ s) 1 = ((W / 2 ^ s % 2 : Nat) : Int) := by
        rw [e1, show (1 : Int) = ((1 : Nat) : Int) from rfl, and_nat _ _ (Nat.lt_of_le_of_lt (Nat.div_le_self _ _) hw) (by decide), Nat.and_one_is_mod]
      refine ⟨?_, rfl⟩
      rw [HE.out]
      show Ending.returned (.bool (Go.bits .and .u64 ((W : Int) / 2 ^ s) 1 == 1)) = _
      rw [e2, HB.out]
      cases m.getD k false <;> rfl
    · have HE := Aside0.mk (show hasM m i = false from by unfold hasM; rw [decide_eq_false hlt, Bool.and_false]; rfl)
      generalize ((m.length : Nat) : Int) = n at *
      clear h hm
      go_enter Tryd.func12, Tryd.ntmps12
      go_wp2_with fail
      refine hsz.mono ?_
      rintro e w1 ⟨rfl, rfl⟩
      clear hsz
      go_wp2_with fail
      go_ret
      exact ⟨by rw [HE.out]; rfl, rfl⟩
/-! ### the least one from a number on -/
def nextM (m : List Bool) (i : Nat) : Option Nat := ((List.range (m.length - i)).find? fun d => m.getD (i + d) false).map (i + ·)
theorem getD_out (m : List Bool) (p : Nat) (h : m.length ≤ p) : m.getD p false = false := by rw [List.getD_eq_getElem?_getD, List.getElem?_eq_none h]; rfl
theorem nextM_some (m : List Bool) (i d : Nat) (h : m.getD (i + d) false = true) (hb : ∀ u, u < d → m.getD (i + u) false = false) : nextM m i = some (i + d) := by
  have hlt : i + d < m.length := by
    rcases Nat.lt_or_ge (i + d) m.length with h1 | h1
    · exact h1
    · rw [getD_out m _ h1] at h; cases h
  unfold nextM
  have : (List.range (m.length - i)).find? (fun d => m.getD (i + d) false) = some d := by
    rw [List.find?_range_eq_some]
    exact ⟨h, List.mem_range.2 (by omega), fun u hu => by rw [hb u hu]; rfl⟩
  rw [this]; rfl
theorem nextM_none (m : List Bool) (i : Nat) (h : ∀ p, i ≤ p → m.getD p false = false) : nextM m i = none := by
  unfold nextM
  have : (List.range (m.length - i)).find? (fun d => m.getD (i + d) false) = none := by
    rw [List.find?_eq_none]
    intro u _
    rw [h (i + u) (by omega)]; exact Bool.false_ne_true
  rw [this]; rfl
theorem nextM_skip (m : List Bool) (i j : Nat) (hij : i ≤ j) (h : ∀ p, i ≤ p → p < j → m.getD p false = false) : nextM m i = nextM m j := by
  by_cases hex : ∃ d, m.getD (j + d) false = true
  · obtain ⟨d, hd, hmin⟩ : ∃ d, m.getD (j + d) false = true ∧ ∀ u, u < d → m.getD (j + u) false = false := by
      obtain ⟨d0, hd0⟩ := hex
      induction d0 using Nat.strongRecOn with
      | ind d0 ih =>
        by_cases hm : ∃ u, u < d0 ∧ m.getD (j + u) false = true
        · obtain ⟨u, hu, hu2⟩ := hm
          exact ih u hu hu2
        · exact ⟨d0, hd0, fun u hu => by
            cases hc : m.getD (j + u) false with
            | false => rfl
            | true => exact absurd ⟨u, hu, hc⟩ hm⟩
    rw [nextM_some m j d hd hmin]
    have := nextM_some m i (j - i + d) (by rw [show i + (j - i + d) = j + d by omega]; exact hd) (fun u hu => by
      by_cases c : i + u < j
      · exact h _ (by omega) c
      · have := hmin (i + u - j) (by omega)
        rwa [show j + (i + u - j) = i + u by omega] at this)
    rw [this]
    congr 1
    omega
  · have hall : ∀ p, j ≤ p → m.getD p false = false := fun p hp => by
      cases hc : m.getD p false with
      | false => rfl
      | true => exact absurd ⟨p - j, by rw [show j + (p - j) = p by omega]; exact hc⟩ hex
    rw [nextM_none m j hall, nextM_none m i (fun p hp => by
      by_cases c : p < j
      · exact h p hp c
      · exact hall p (by omega))]
theorem ctz_bits (x : Nat) (h0 : x ≠ 0) (hx : x < 18446744073709551616) : x.testBit (Lib.ctz 64 x) = true ∧ (∀ u, u < Lib.ctz 64 x → x.testBit u = false) ∧ Lib.ctz 64 x < 64 := by
  have e : Lib.ctz 64 x = Lib.ctzFrom 64 x := by unfold Lib.ctz; rw [if_neg h0]
  rw [e]
  obtain ⟨m, hm, hk⟩ := Lib.ctzFrom_spec 64 x (by omega) hx
  generalize Lib.ctzFrom 64 x = k at *
  refine ⟨?_, fun u hu => ?_, hk⟩
  · rw [hm, Nat.testBit_two_pow_mul]
    simp
  · rw [hm, Nat.testBit_two_pow_mul]
    simp [show ¬ k ≤ u by omega]
theorem next_hit (m : List Bool) (k q s : Nat) (hq : k / 64 = q) (hs : k % 64 = s) (h0 : wordN m q / 2 ^ s ≠ 0) : nextM m k = some (k + Lib.ctz 64 (wordN m q / 2 ^ s)) := by
  have hw := wordN_lt m q
  have hlt : wordN m q / 2 ^ s < 18446744073709551616 := Nat.lt_of_le_of_lt (Nat.div_le_self _ _) hw
  obtain ⟨h1, h2, h3⟩ := ctz_bits _ h0 hlt
  generalize hc : Lib.ctz 64 (wordN m q / 2 ^ s) = t at *
  have hb : ∀ u, (wordN m q / 2 ^ s).testBit u = (decide (s + u < 64) && m.getD (k + u) false) := by
    intro u
    rw [Nat.testBit_div_two_pow]
    unfold wordN
    rw [wN_bit, show 64 * q + (u + s) = k + u by omega, Nat.add_comm u s]
  rw [hb t] at h1
  simp only [Bool.and_eq_true, decide_eq_true_eq] at h1
  refine nextM_some m k t h1.2 (fun u hu => ?_)
  have := h2 u hu
  rw [hb u, decide_eq_true (by omega), Bool.true_and] at this
  exact this
theorem next_miss (m : List Bool) (k q s : Nat) (hq : k / 64 = q) (hs : k % 64 = s) (h0 : wordN m q / 2 ^ s = 0) : nextM m k = nextM m ((q + 1) * 64) := by
  refine nextM_skip m k _ (by omega) (fun p hp1 hp2 => ?_)
  have hb : (wordN m q / 2 ^ s).testBit (p - k) = m.getD p false := by
    rw [Nat.testBit_div_two_pow]
    unfold wordN
    rw [wN_bit, show 64 * q + (p - k + s) = p by omega, decide_eq_true (by omega), Bool.true_and]
  rw [← hb, h0, Nat.zero_testBit]
def nextV (r : Option Nat) : Value := .tuple #[.int .i64 ((r.getD 0 : Nat) : Int), .bool r.isSome]
theorem max0 (i : Int) : (if i < 0 then 0 else i) = ((i.toNat : Nat) : Int) := by split <;> omega
set_option maxRecDepth 20000 in
set_option maxHeartbeats 1600000 in
theorem Next_any (m : List Bool) (P : Option Addr) (i : Int) (w : World) (h : SetAt w P m) (hm : m.length ≤ 1024) (hT : TabAt 0 Lib.deBruijn64tab w) :
    Calls Tryd.prog 11 #[.pointer P, .int .i64 i] w fun e w' => e = .returned (nextV (nextM m i.toNat)) ∧ Below w.heap.size w w' := by
  have HSZ := Aside0.mk (fun W hW => size_any P m W hW)
  have HH := Aside0.mk h
  have HT := Aside0.mk hT
  have HM := Aside0.mk hm
  generalize hr : nextM m i.toNat = r at *
  have HR := Aside0.mk hr
  clear h hT hm hr
  go_enter Tryd.func11, Tryd.ntmps11
  go_wp2_with fail
  all_goals
    go_loopw [1] (fun s1 wr => ∃ (k : Nat), s1 = .int .i64 k ∧ Aside0 (nextM m k = r) ∧ Aside0 (Below w.heap.size w wr)) (fun s _ => m.length - (intOf s).toNat)
    case atStart => exact ⟨i.toNat, by first | (rw [show i.toNat = 0 by omega]; rfl) | (rw [Int.toNat_of_nonneg (by omega)]), ⟨HR.out⟩, ⟨Below.refl _ _⟩⟩
    case round =>
      obtain ⟨k, rfl, HK, HB⟩ := hrel
      have hsz := HSZ.out wr (HH.out.below HB.out)
      by_cases h1 : k < m.length
      · have h1' : (k : Int) < (m.length : Int) := by omega
        have hkw : k / 64 < (m.length + 63) / 64 := by omega
        obtain ⟨g, a, c, rfl, _, x1, x2, _⟩ := set_word HH.out HB.out (k / 64) hkw
        have hwl : (wordsOf m).length ≤ 100 := by rw [wordsOf_len]; have := HM.out; omega
        have hkw1 : k / 64 < (wordsOf m).length := by rw [wordsOf_len]; exact hkw
        have hq2 : (k : Int) / 64 = ((k / 64 : Nat) : Int) := by omega
        have hm2 : (k : Int) % 64 = ((k % 64 : Nat) : Int) := by omega
        have hr64 : k % 64 < 64 := Nat.mod_lt _ (by decide)
        have hw := wordN_lt m (k / 64)
        have HHIT := Aside0.mk (next_hit m k (k / 64) (k % 64) rfl rfl)
        have HMISS := Aside0.mk (next_miss m k (k / 64) (k % 64) rfl rfl)
        have hlk : k ≤ 64 * (k / 64) + k % 64 := by omega
        have hlk2 : k < (k / 64 + 1) * 64 := by omega
        have HTz := HT
        have hk1024 : k < 1024 := Nat.lt_of_lt_of_le h1 HM.out
        generalize hqq : k / 64 = q at *
        generalize hss : k % 64 = s at *
        generalize (wordsOf m).length = nw at *
        generalize hW : wordN m q = W at *
        have hkw2 : (q : Int) < (nw : Int) := by omega
        have hql : q < 16 := by omega
        have HNN := Aside0.mk (show True from trivial)
        generalize hn : ((m.length : Nat) : Int) = n at *
        have e1 : ((W : Int) / 2 ^ s) = ((W / 2 ^ s : Nat) : Int) := by simp
        have hlt : W / 2 ^ s < 18446744073709551616 := Nat.lt_of_le_of_lt (Nat.div_le_self _ _) hw
        generalize hX : W / 2 ^ s = X at *
        clear hqq hss hW hkw hkw1
        by_cases h0 : X = 0
        · have hb0 : ((X : Int) == 0) = true := by rw [h0]; rfl
          go_wp2_with fail
          refine hsz.mono ?_
          rintro e w1 ⟨rfl, rfl⟩
          clear hsz
          go_wp2_with (rw [e1])
          go_roundw
          case rel => exact ⟨(q + 1) * 64, by push_cast; rfl, ⟨by rw [← HMISS.out h0]; exact HK.out⟩, HB⟩
          case measure =>
            have e2 : (((q : Int) + 1) * 64).toNat = (q + 1) * 64 := by omega
            have e3 : (k : Int).toNat = k := Int.toNat_natCast k
            show m.length - (((q : Int) + 1) * 64).toNat < m.length - (k : Int).toNat
            rw [e2, e3]
            omega
        · have hb0 : ((X : Int) == 0) = false := by rw [beq_eq_false_iff_ne]; omega
          have htz := tz_any X hlt h0 wr (tab_below HT.out HB.out)
          have hct := (ctz_bits X h0 hlt).2.2
          have HE := Aside0.mk (show r = some (k + Lib.ctz 64 X) from by rw [← HK.out]; exact HHIT.out h0)
          generalize Lib.ctz 64 X = t at *
          go_wp2_with fail
          refine hsz.mono ?_
          rintro e w1 ⟨rfl, rfl⟩
          clear hsz
          go_wp2_with (rw [e1])
          refine htz.mono ?_
          rintro e w2 ⟨rfl, rfl⟩
          clear htz
          go_wp2_with fail
          go_ret2
          exact ⟨by rw [HE.out]; rfl, HB.out⟩
      · have h1' : ¬ (k : Int) < (m.length : Int) := by omega
        have HE := Aside0.mk (show r = none from by rw [← HK.out]; exact nextM_none m k (fun p hp => getD_out m p (by omega)))
        generalize hn : ((m.length : Nat) : Int) = n at *
        go_wp2_with fail
        refine hsz.mono ?_
        rintro e w1 ⟨rfl, rfl⟩
        clear hsz
        go_wp2_with fail
        go_ret2
        exact ⟨by rw [HE.out]; rfl, HB.out⟩
end Go.Proofs.YtdhkhbejedndoaaDoor.H
