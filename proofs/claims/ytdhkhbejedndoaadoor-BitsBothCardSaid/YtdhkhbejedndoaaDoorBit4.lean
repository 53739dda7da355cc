/- Of: walked. -/
import Derived.Test.YtdhkhbejedndoaaDoorBit3
import Derived.RegionTactic
import Derived.ChangeAlike
import Derived.BigRegion
namespace Go.Proofs.YtdhkhbejedndoaaDoor.H
open Go.RowKit Go.Proofs.YtdhkhbejedndoaaDoor.P Go.Proofs.YtdhkhbejedndoaaDoorW.PrintWords Go.Proofs.YtdhkhbejedndoaaDoorW.PrintLast Go.Proofs.YtdhkhbejedndoaaDoorW.PrintMore
set_option linter.unusedVariables false
set_option linter.unusedSimpArgs false
/-- Numbers are laid in. -/
def layL (m : List Bool) : List Int → Option (List Bool)
  | [] => some m
  | i :: t => if 0 ≤ i ∧ i < (m.length : Int) then layL (m.set i.toNat true) t else none
/-- What Of hands back. -/
def OfAt (r : Option (List Bool)) (w : World) (e : Ending) (w' : World) : Prop :=
  ((r = none ∧ e = .returned (.tuple #[.pointer none, .int .i64 61])) ∨ ∃ m g, r = some m ∧ e = .returned (.tuple #[.pointer (some ⟨g, 0, none⟩), .int .i64 0]) ∧ OwnSet w' g w.heap.size m) ∧ Below w.heap.size w w'
theorem or_pow (a s : Nat) (ha : a < 18446744073709551616) (hs : s < 64) : Go.bits .or .u64 (a : Int) (IntKind.u64.wrap (2 ^ s)) = ((a ||| 2 ^ s : Nat) : Int) := by
  have h2 : 2 ^ s < 18446744073709551616 := by
    have : 2 ^ s < 2 ^ 64 := Nat.pow_lt_pow_right (by decide) hs
    have e : (2 : Nat) ^ 64 = 18446744073709551616 := by decide
    omega
  have e : ((2 : Int) ^ s) = ((2 ^ s : Nat) : Int) := by simp
  rw [e, wrap_nat _ h2, bits_or_u64_nat a _ ha h2]
/-- A bit is laid into a set of the call's own. -/
theorem OwnSet.lay {W : World} {g base b cap : Nat} {m : List Bool} (k : Nat) (hk : k < m.length) (hg : W.heap[g]? = some (.cells #[.int .i64 (m.length : Nat), .slice (some ⟨b, 0, none⟩) (wordsOf m).length cap] 54 (0, 0))) (hbg : base ≤ g)
    (hR : Kd.R (Kd.int .u64) 51 W base (fun _ => True) (.slice (some ⟨b, 0, none⟩) (wordsOf m).length cap) (wordsOf m)) :
    OwnSet ((W.setCell ⟨b, k / 64, none⟩ (.int .u64 ((wordN m (k / 64) ||| 2 ^ (k % 64) : Nat) : Int))).drew) g base (m.set k true) ∧ base ≤ b := by
  obtain ⟨inner, hown⟩ := Kd.R_own hR
  have hb : base ≤ b := own_base hown b rfl
  have hne : g ≠ b := by
    obtain ⟨cs, hc⟩ := own_typed hown b rfl
    exact blk_ne hg hc (by decide)
  have h1 := (Kd.R_put hR ((k / 64 : Nat) : Int) ((wordN m (k / 64) ||| 2 ^ (k % 64) : Nat) : Int)).1
  rw [Int.toNat_natCast, ← wordsOf_set m k hk] at h1
  have hl : (wordsOf m).length = (wordsOf (m.set k true)).length := by rw [wordsOf_len, wordsOf_len, List.length_set]
  refine ⟨⟨.slice (some ⟨b, 0, none⟩) (wordsOf m).length cap, ?_, hbg, ?_⟩, hb⟩
  · rw [List.length_set]
    exact blk_drew (blk_far hg (p := ⟨b, k / 64, none⟩) hne _)
  · exact Kd.R_drew h1
set_option maxRecDepth 20000 in
set_option maxHeartbeats 4000000 in
theorem of_any (n : Nat) (A : Option Addr) (c : Nat) (l : List Int) (w : World) (hn : n ≤ 1024) (hr : Kd.C (Kd.int .i64) w A l.length l) (hl : l.length ≤ 9223372036854775807) :
    Calls Tryd.prog 8 #[.int .i64 (n : Nat), .slice A l.length c] w fun e w' => OfAt (layL (List.replicate n false) l) w e w' := by
  have HR := Aside0.mk hr
  have HL := Aside0.mk hl
  have HN := Aside0.mk hn
  have hnew := new_yes n w hn
  clear hr hl hn
  generalize hrr : layL (List.replicate n false) l = r at *
  have HRR := Aside0.mk hrr
  clear hrr
  go_enter Tryd.func8, Tryd.ntmps8
  go_wp2_with fail
  refine hnew.mono ?_
  rintro e w1 ⟨⟨g, rfl, hs⟩, hb⟩
  have HS := Aside0.mk hs
  have HB := Aside0.mk hb
  clear hnew hs hb
  go_wp2_with fail
  go_loopw [20, 9] (fun s20 s9 wr => ∃ (j : Nat) (m : List Bool), s20 = .int .i64 j ∧ j ≤ l.length ∧ Aside0 (m.length = n) ∧ Aside0 (r = layL m (l.drop j)) ∧ Aside0 (OwnSet wr g w.heap.size m) ∧ Aside0 (Below w.heap.size w wr)) (fun s _ _ => l.length - (intOf s).toNat)
  case atStart => exact ⟨0, List.replicate n false, rfl, Nat.zero_le _, ⟨List.length_replicate ..⟩, ⟨by rw [List.drop_zero]; exact HRR.out.symm⟩, HS, HB⟩
  case round =>
    obtain ⟨j, m, rfl, hj, HM, HY, HO, HBW⟩ := hrel
    have hl1 := HL.out
    by_cases h1 : j < l.length
    · have h1' : (j : Int) < (l.length : Int) := by omega
      obtain ⟨ad, rfl, a0⟩ := Kd.at_int (Kd.C_below HR.out HBW.out) j (by omega) (by omega)
      have hx : rd l (j : Int) = l[j] := by unfold rd; rw [Int.toNat_natCast, List.getD_eq_getElem?_getD, List.getElem?_eq_getElem h1]; rfl
      rw [hx, Int.toNat_natCast] at a0
      have HD := Aside0.mk (show l.drop j = l[j] :: l.drop (j + 1) from List.drop_eq_getElem_cons h1)
      generalize l[j] = x at *
      clear hx h1
      by_cases hx0 : x < 0
      · have HE := Aside0.mk (show r = none from by rw [HY.out, HD.out, layL, if_neg (by omega)])
        go_wp2_with fail
        go_ret2
        exact ⟨.inl ⟨HE.out, rfl⟩, HBW.out⟩
      · by_cases hx1 : x < (n : Int)
        · obtain ⟨k, rfl⟩ : ∃ k : Nat, x = (k : Int) := ⟨x.toNat, by omega⟩
          have hk : k < m.length := by rw [HM.out]; omega
          have HE := Aside0.mk (show r = layL (m.set k true) (l.drop (j + 1)) from by rw [HY.out, HD.out, layL, if_pos (by rw [HM.out]; omega), Int.toNat_natCast])
          obtain ⟨v, hg, hbg, hR⟩ := HO.out
          obtain ⟨inner, hown⟩ := Kd.R_own hR
          have hkw : k / 64 < (wordsOf m).length := by rw [wordsOf_len]; omega
          obtain ⟨b, cap, rfl⟩ : ∃ b cap, v = .slice (some ⟨b, 0, none⟩) (wordsOf m).length cap := by
            rcases hown.2 with ⟨_, h0⟩ | ⟨b, cap, cur, rfl, _⟩
            · omega
            · exact ⟨b, cap, rfl⟩
          obtain ⟨c1, f1⟩ := Kd.R_cell (d := (0 : Int)) hR ((k / 64 : Nat) : Int) (by omega) (by omega)
          have hw0 := wordsOf_at m (k / 64) (by omega)
          have e0 : rdOf (0 : Int) (wordsOf m) ((k / 64 : Nat) : Int) = ((wordN m (k / 64) : Nat) : Int) := hw0
          rw [e0, Int.toNat_natCast] at c1
          rw [Int.toNat_natCast] at f1
          have c0 := blk_cell hg 1
          have HGG := Aside0.mk hg
          have HRR2 := Aside0.mk hR
          have hq1 : Int.tdiv (k : Int) 64 = ((k / 64 : Nat) : Int) := by rw [Int.tdiv_eq_ediv_of_nonneg (by omega)]; omega
          have hq2 : (k : Int) / 64 = ((k / 64 : Nat) : Int) := by omega
          have hm1 : Int.tmod (k : Int) 64 = ((k % 64 : Nat) : Int) := by rw [Int.tmod_eq_emod_of_nonneg (by omega)]; omega
          have hm2 : (k : Int) % 64 = ((k % 64 : Nat) : Int) := by omega
          have hr64 : k % 64 < 64 := Nat.mod_lt _ (by decide)
          generalize hqq : k / 64 = q at *
          generalize hss : k % 64 = s at *
          have HQS := Aside0.mk (And.intro hqq hss)
          have hwl : (wordsOf m).length ≤ 100 := by rw [wordsOf_len]; have := HM.out; have := HN.out; omega
          have wq : IntKind.i64.wrap (q : Int) = (q : Int) := by rw [IntKind.wrap_i64]; omega
          have ws : IntKind.i64.wrap (s : Int) = (s : Int) := by rw [IntKind.wrap_i64]; omega
          have hkw1 : (q : Int) < ((wordsOf m).length : Int) := by omega
          clear hqq hss
          have hcell : wr.cell? ⟨g, 1, none⟩ = some (.slice (some ⟨b, 0, none⟩) (wordsOf m).length cap) ∧ wr.cell? ⟨b, q, none⟩ = some (.int .u64 ((wordN m q : Nat) : Int)) ∧ wr.frozen? ⟨b, q, none⟩ = false := ⟨c0, c1, f1⟩
          clear hw0 e0 hown hg hR c0 c1 f1
          go_wp2_with fail
          obtain ⟨x0, x1, x2⟩ := hcell
          go_region
          have e1 : Go.bits .or .u64 ((wordN m q : Nat) : Int) (IntKind.u64.wrap (2 ^ s)) = ((wordN m q ||| 2 ^ s : Nat) : Int) := or_pow _ s (wordN_lt m q) (by omega)
          have HO2 := Aside0.mk (OwnSet.lay k hk HGG.out hbg HRR2.out)
          rw [HQS.out.1, HQS.out.2] at HO2
          have HB2 := Aside0.mk (below_drew (HBW.out.setCell (p := ⟨b, q, none⟩) HO2.out.2 (.int .u64 ((wordN m q ||| 2 ^ s : Nat) : Int))))
          rw [e1]
          clear e1 x0 x1 x2 hq1 hq2 hm1 hm2
          generalize (wr.setCell ⟨b, q, none⟩ (.int .u64 ((wordN m q ||| 2 ^ s : Nat) : Int))).drew = w5 at *
          go_wp2_with fail
          go_roundw
          case rel => exact ⟨j + 1, m.set k true, by go_num, by omega, ⟨by rw [List.length_set]; exact HM.out⟩, HE, ⟨HO2.out.1⟩, HB2⟩
          case measure => simp [intOf]; omega
        · have HE := Aside0.mk (show r = none from by rw [HY.out, HD.out, layL, if_neg (by rw [HM.out]; omega)])
          have hge : (n : Int) ≤ x := by omega
          go_wp2_with fail
          go_ret2
          exact ⟨.inl ⟨HE.out, rfl⟩, HBW.out⟩
    · have h1' : ¬ (j : Int) < (l.length : Int) := by omega
      have HE := Aside0.mk (show r = some m from by rw [HY.out, List.drop_eq_nil_of_le (by omega)]; rfl)
      go_wp2_with fail
      go_ret2
      exact ⟨.inr ⟨m, g, HE.out, rfl, HO.out⟩, HBW.out⟩
end Go.Proofs.YtdhkhbejedndoaaDoor.H
