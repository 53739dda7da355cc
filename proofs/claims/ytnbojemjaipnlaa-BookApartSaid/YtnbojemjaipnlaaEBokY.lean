/- BokY. -/
import Derived.Test.YtnbojemjaipnlaaEBokX
namespace Go.Proofs.Ytnbojemjaipnlaa.H
open Go.RowKit Go.Proofs.Ytnbojemjaipnlaa.P Go.Proofs.YtnbojemjaipnlaaW.PrintWords Go.Proofs.YtnbojemjaipnlaaW.PrintLast Go.Proofs.YtnbojemjaipnlaaW.PrintMore
set_option linter.unusedVariables false
set_option linter.unusedSimpArgs false
set_option maxRecDepth 20000
theorem own_slice {w : World} {B n : Nat} {v : Value} {xs : List Value} (h : w.ownsRow B 54 3 v n xs) : ∃ A c, v = .slice A n c ∧ n ≤ c := by
  obtain ⟨h1, ⟨e, h2⟩ | ⟨g, cap, cur, e, h2, h3, h4, h5, h6, h7⟩⟩ := h
  · rw [h2] at h1
    have : n = 0 := by simp at h1; omega
    subst this
    exact ⟨none, 0, e, Nat.le_refl _⟩
  · exact ⟨_, cap, e, h4⟩
def lowD (n : Int) (R : List RD) (j : Nat) : List RD := (R.take j).filter (fun r => decide (r.n < n))
def highD (n : Int) (R : List RD) (j : Nat) : List RD := (R.take j).filter (fun r => decide (n < r.n))
theorem take_snoc {R : List RD} {j : Nat} {y : RD} (h : R[j]? = some y) : R.take (j + 1) = R.take j ++ [y] := by rw [List.take_add_one, h]; rfl
theorem lowD_in {n : Int} {R : List RD} {j : Nat} {y : RD} (h : R[j]? = some y) (c : y.n < n) : lowD n R (j + 1) = lowD n R j ++ [y] := by unfold lowD; rw [take_snoc h, List.filter_append]; simp [c]
theorem lowD_out {n : Int} {R : List RD} {j : Nat} {y : RD} (h : R[j]? = some y) (c : ¬ y.n < n) : lowD n R (j + 1) = lowD n R j := by unfold lowD; rw [take_snoc h, List.filter_append]; simp [c]
theorem highD_in {n : Int} {R : List RD} {j : Nat} {y : RD} (h : R[j]? = some y) (c : n < y.n) : highD n R (j + 1) = highD n R j ++ [y] := by unfold highD; rw [take_snoc h, List.filter_append]; simp [c]
theorem highD_out {n : Int} {R : List RD} {j : Nat} {y : RD} (h : R[j]? = some y) (c : ¬ n < y.n) : highD n R (j + 1) = highD n R j := by unfold highD; rw [take_snoc h, List.filter_append]; simp [c]
theorem lowD_len (n : Int) (R : List RD) (j : Nat) : (lowD n R j).length ≤ j := Nat.le_trans (List.length_filter_le _ _) (by rw [List.length_take]; omega)
theorem highD_len (n : Int) (R : List RD) (j : Nat) : (highD n R j).length ≤ j := Nat.le_trans (List.length_filter_le _ _) (by rw [List.length_take]; omega)
theorem lowD_all {n : Int} {R : List RD} {j : Nat} (h : R.length ≤ j) : lowD n R j = R.filter (fun r => decide (r.n < n)) := by unfold lowD; rw [List.take_of_length_le h]
theorem highD_all {n : Int} {R : List RD} {j : Nat} (h : R.length ≤ j) : highD n R j = R.filter (fun r => decide (n < r.n)) := by unfold highD; rw [List.take_of_length_le h]
def Mk (w : World) (A : Option Addr) (nn c : Nat) (K : List RD) (wr : World) : Prop := nn = K.length ∧ Below w.heap.size w wr ∧ OwnD w.heap.size (.slice A nn c) K wr
theorem Mk.snoc {w wr wr2 w3 : World} {A A3 : Option Addr} {nn c c3 : Nat} {K : List RD} {y : RD} (h : Mk w A nn c K wr) (hb : Below w.heap.size w wr2) (ho : w3.ownsRow w.heap.size 54 3 (.slice A3 (nn + 1) c3) (nn + 1) (dflat K ++ dcells y)) (hg : wr2.grownBy w3 (Value.slice A nn c).ownBlock) (ho2 : OwnD w.heap.size (.slice A nn c) K wr2) : Mk w A3 (nn + 1) c3 (K ++ [y]) w3 := by
  obtain ⟨e, _, _⟩ := h
  subst e
  refine ⟨by simp, hb.grown hg hb.size (fun q hq => (ho2.lt q hq).1), ownD_snoc ho⟩
set_option maxHeartbeats 4000000 in
theorem openD_ok (mb : Nat) (M : List (Int × Ses)) (br : ByteArray) (n0 : Int) (w : World) (h : DocAt w mb M) (hm : M.length < 4) (hf : freeM M 4 1 = some n0) :
    Calls Try.prog 23 #[.pointer (some ⟨mb, 0, none⟩), .string br] w (DoesD w mb (putM M n0 (br, [])) (.tuple #[.int .i64 n0, .int .i64 0])) := by
  obtain ⟨i0, hi0, hz0, hzs, hzb⟩ := info_parts infoD
  have H := Aside0.mk h
  have HM := Aside0.mk hm
  have HFD := Aside0.mk (fun n => findD_any mb M n w h (by omega))
  obtain ⟨v, R, h1, h2, h3⟩ := h
  have hlen := h3.len
  obtain ⟨A0, cap0, rfl, hc0, hx0⟩ := ownD_slice h2
  have HOW := Aside0.mk h2
  have HMB := Aside0.mk h1
  have HS := Aside0.mk (show R.length < 4 from by omega)
  have HBOTH := Aside0.mk h3
  have hut := Try.underlying28
  have hut2 := Try.underlying54
  have c0 : w.cell? ⟨mb, 0, none⟩ = some (.slice A0 R.length cap0) := blk_cell h1 0
  have hlt4 : ¬ ((4 : Int) ≤ (R.length : Int)) := by omega
  have HFREE := Aside0.mk hf
  have HNEW := Aside0.mk (show RDat w ⟨n0, br, none, 0, 0⟩ (n0, (br, [])) from ⟨rfl, rfl, rfl, Nat.le_refl _, ⟨rfl, by simp, fun h => absurd h (by simp)⟩⟩)
  clear h1 h2 h3 hm hlen hc0 hx0 hf
  go_enter Try.func23, Try.ntmps23
  go_wp2_with fail
  go_loopw [6] (fun s6 wr => ∃ j : Nat, s6 = .int .i64 j ∧ j ≤ 5 ∧ Aside0 (w = wr) ∧ Aside0 (freeM M (5 - j) j = some n0)) (fun s6 _ => 5 - (intOf s6).toNat)
  case atStart => exact ⟨1, rfl, by omega, ⟨rfl⟩, ⟨HFREE.out⟩⟩
  case round =>
    obtain ⟨j, rfl, hj, HWW, HI⟩ := hrel
    obtain rfl := HWW.out
    clear HWW
    obtain ⟨k, hk⟩ : ∃ k, 5 - j = k + 1 := by
      cases e : 5 - j with
      | zero => have := HI.out; rw [e] at this; cases this
      | succ k => exact ⟨k, rfl⟩
    have hw0 : wrap64 ((j : Int) + 1) = ((j + 1 : Nat) : Int) := by unfold wrap64; omega
    have HW := Aside0.mk hw0
    have HJ := Aside0.mk (show k = 5 - (j + 1) ∧ j + 1 ≤ 5 from by omega)
    have HI2 := Aside0.mk (show (if (lookM M (j : Int)).isSome = true then freeM M k (j + 1) else some (j : Int)) = some n0 from by have := HI.out; rw [hk, freeM] at this; exact this)
    clear hw0 HI
    have hcall := HFD.out (j : Int)
    rcases ixM_spec M (j : Int) with ⟨e1, e2⟩ | ⟨i, s, e1, e2, e3⟩
    · rw [e1] at hcall
      have HC := Aside0.mk hcall
      have HN := Aside0.mk (show (j : Int) = n0 from by have := HI2.out; rw [e2] at this; simpa using this)
      clear hcall e1 e2 hk
      go_wp2_with (refine HC.out.mono ?_; rintro e w' ⟨rfl, rfl⟩)
      go_loopw [7, 8] (fun s7 s8 wr => ∃ (i nn : Nat) (A : Option Addr) (c : Nat), s7 = .slice A nn c ∧ s8 = .int .i64 i ∧ i ≤ R.length ∧ Aside0 (Mk w A nn c (lowD (j : Int) R i) wr)) (fun _ s8 _ => R.length - (intOf s8).toNat)
      case atStart => exact ⟨0, 0, none, 0, rfl, rfl, Nat.zero_le _, ⟨rfl, Below.refl _ _, ownD_nil _ _⟩⟩
      case round =>
        obtain ⟨i, nn, A, c, rfl, rfl, hi, HK⟩ := hrel
        have HB := Aside0.mk HK.out.2.1
        have d0 : wr.cell? ⟨mb, 0, none⟩ = some (.slice A0 R.length cap0) := blk_cell (blk_below HMB.out HB.out) 0
        by_cases hlt : i < R.length
        · have hltz : (i : Int) < (R.length : Int) := by omega
          have hy := List.getElem?_eq_getElem hlt
          generalize R[i] = y at hy
          obtain ⟨g, cap2, e, _, _, x0, x1, x2⟩ := ownD_at (ownD_below HOW.out HB.out) hy
          simp only [Value.slice.injEq] at e
          obtain ⟨rfl, _, rfl⟩ := e
          have hw0 : wrap64 ((i : Int) + 1) = ((i + 1 : Nat) : Int) := by have := HS.out; unfold wrap64; omega
          have HW := Aside0.mk hw0
          have HY := Aside0.mk hy
          have HNN := Aside0.mk (show nn ≤ 4 from by have := HK.out.1; have := lowD_len (j : Int) R i; have := HS.out; omega)
          clear hw0 hy
          by_cases hq : y.n < (j : Int)
          · have HR := Aside0.mk (lowD_in HY.out hq)
            have HB2 := Aside0.mk (HB.out.alloc HB.out.size (.cells #[.int .i64 y.n, .string y.br, .slice y.A y.len y.c] 54))
            have HNW := Aside0.mk (blk_new wr (.cells #[.int .i64 y.n, .string y.br, .slice y.A y.len y.c] 54))
            have HO2 := Aside0.mk (ownD_below HK.out.2.2 ((Below.refl wr.heap.size wr).alloc (Nat.le_refl _) (.cells #[.int .i64 y.n, .string y.br, .slice y.A y.len y.c] 54)))
            go_wp2_with ((at_builtin; refine wpList_append_own _ rfl (.tmp 41) (.tmp 49) 26 rfl w.heap.size 54 i0 (.agg #[(.int .i64 0), (.string ⟨#[]⟩), (.slice none 0 0)]) 3 48 Try.underlying26 hi0 hz0 hzs hzb rfl (by decide) (.slice A nn c) nn (dflat (lowD (j : Int) R i)) rfl (by have := HO2.out; unfold OwnD at this; rw [← HK.out.1] at this; exact this) ⟨wr.heap.size, 0, none⟩ 1 1 (dcells y) rfl rfl (fun k u hu => by rw [Addr.add_lit, blk_cell HNW.out, Nat.zero_add, List.getElem?_toArray]; exact hu) (dcells_one _) (by have := HNN.out; unfold maxLen; omega) (by have := HNN.out; omega) HB2.out.size ?_; intro v3 w3 ho3 hg3 _; have HO3 := Aside0.mk ho3; have HG3 := Aside0.mk hg3; obtain ⟨A3, c3, e3, hc3⟩ := own_slice ho3; subst e3; clear ho3 hg3))
            go_roundw
            case rel => exact ⟨i + 1, nn + 1, A3, c3, rfl, by first | rfl | rw [HW.out] | go_num, by omega, ⟨by rw [HR.out]; exact HK.out.snoc HB2.out HO3.out HG3.out HO2.out⟩⟩
            case measure => (try rw [HW.out]); simp only [intOf]; omega
          · have HR := Aside0.mk (lowD_out HY.out hq)
            go_wp2_with fail
            go_roundw
            case rel => exact ⟨i + 1, nn, A, c, rfl, by first | rfl | rw [HW.out] | go_num, by omega, ⟨by rw [HR.out]; exact HK.out⟩⟩
            case measure => (try rw [HW.out]); simp only [intOf]; omega
        · have hltz : ¬ (i : Int) < (R.length : Int) := by omega
          have HL := Aside0.mk (show lowD (j : Int) R i = R.filter (fun r => decide (r.n < (j : Int))) from lowD_all (by omega))
          have HNN := Aside0.mk (show nn ≤ 4 from by have := HK.out.1; have := lowD_len (j : Int) R i; have := HS.out; omega)
          have HB2 := Aside0.mk (HB.out.alloc HB.out.size (.cells #[.int .i64 j, .string br, .slice none 0 0] 54))
          have HNW := Aside0.mk (blk_new wr (.cells #[.int .i64 j, .string br, .slice none 0 0] 54))
          have HO2 := Aside0.mk (ownD_below HK.out.2.2 ((Below.refl wr.heap.size wr).alloc (Nat.le_refl _) (.cells #[.int .i64 j, .string br, .slice none 0 0] 54)))
          clear hlt
          go_upto_region 13 with ((at_builtin; refine wpList_append_own _ rfl (.tmp 51) (.tmp 55) 26 rfl w.heap.size 54 i0 (.agg #[(.int .i64 0), (.string ⟨#[]⟩), (.slice none 0 0)]) 3 48 Try.underlying26 hi0 hz0 hzs hzb rfl (by decide) (.slice A nn c) nn (dflat (lowD (j : Int) R i)) rfl (by have := HO2.out; unfold OwnD at this; rw [← HK.out.1] at this; exact this) ⟨wr.heap.size, 0, none⟩ 1 1 (dcells ⟨(j : Int), br, none, 0, 0⟩) rfl rfl (fun k u hu => by rw [Addr.add_lit, blk_cell HNW.out, Nat.zero_add, List.getElem?_toArray]; exact hu) (dcells_one _) (by have := HNN.out; unfold maxLen; omega) (by have := HNN.out; omega) HB2.out.size ?_; intro v3 w3 ho3 hg3 _; have HO3 := Aside0.mk ho3; have HG3 := Aside0.mk hg3; obtain ⟨A3, c3, e3, hc3⟩ := own_slice ho3; subst e3; clear ho3 hg3))
          have HK2 := Aside0.mk (HK.out.snoc HB2.out HO3.out HG3.out HO2.out)
          rw [HL.out] at HK2
          obtain ⟨n2, hn2⟩ : ∃ n2, nn + 1 = n2 := ⟨_, rfl⟩
          have HN2 := Aside0.mk (show n2 ≤ 5 from by have := HNN.out; omega)
          rw [hn2] at HK2 ⊢
          clear HO3 HG3 HO2 HNW HB2 HB d0 hn2 HK HL hc3 HNN hltz
          go_wp2_with fail
          go_loopw [7, 9] (fun s7 s9 wr2 => ∃ (i nn : Nat) (A : Option Addr) (c : Nat), s7 = .slice A nn c ∧ s9 = .int .i64 i ∧ i ≤ R.length ∧ Aside0 (Mk w A nn c ((R.filter (fun r => decide (r.n < (j : Int))) ++ [⟨(j : Int), br, none, 0, 0⟩]) ++ highD (j : Int) R i) wr2)) (fun _ s9 _ => R.length - (intOf s9).toNat)
          case atStart => exact ⟨0, n2, A3, c3, rfl, rfl, Nat.zero_le _, ⟨by show Mk w A3 n2 c3 (_ ++ []) _; rw [List.append_nil]; exact HK2.out⟩⟩
          case round =>
            obtain ⟨i, nn, A, c, rfl, rfl, hi, HK⟩ := hrel
            have HB := Aside0.mk HK.out.2.1
            have d0 : wr.cell? ⟨mb, 0, none⟩ = some (.slice A0 R.length cap0) := blk_cell (blk_below HMB.out HB.out) 0
            have dz := blk_frozen (blk_below HMB.out HB.out) 0
            by_cases hlt : i < R.length
            · have hltz : (i : Int) < (R.length : Int) := by omega
              have hy := List.getElem?_eq_getElem hlt
              generalize R[i] = y at hy
              obtain ⟨g, cap2, e, _, _, x0, x1, x2⟩ := ownD_at (ownD_below HOW.out HB.out) hy
              simp only [Value.slice.injEq] at e
              obtain ⟨rfl, _, rfl⟩ := e
              have hw0 : wrap64 ((i : Int) + 1) = ((i + 1 : Nat) : Int) := by have := HS.out; unfold wrap64; omega
              have HW := Aside0.mk hw0
              have HY := Aside0.mk hy
              have HNN := Aside0.mk (show nn ≤ 10 from by
                have h1 := HK.out.1
                have h2 := highD_len (j : Int) R i
                have h3 := List.length_filter_le (fun r : RD => decide (r.n < (j : Int))) R
                have h4 := HS.out
                rw [List.length_append, List.length_append, List.length_singleton] at h1
                omega)
              clear hw0 hy
              by_cases hq : (j : Int) < y.n
              · have HR := Aside0.mk (highD_in HY.out hq)
                have HB2 := Aside0.mk (HB.out.alloc HB.out.size (.cells #[.int .i64 y.n, .string y.br, .slice y.A y.len y.c] 54))
                have HNW := Aside0.mk (blk_new wr (.cells #[.int .i64 y.n, .string y.br, .slice y.A y.len y.c] 54))
                have HO2 := Aside0.mk (ownD_below HK.out.2.2 ((Below.refl wr.heap.size wr).alloc (Nat.le_refl _) (.cells #[.int .i64 y.n, .string y.br, .slice y.A y.len y.c] 54)))
                go_wp2_with ((at_builtin; refine wpList_append_own _ rfl (.tmp 76) (.tmp 84) 26 rfl w.heap.size 54 i0 (.agg #[(.int .i64 0), (.string ⟨#[]⟩), (.slice none 0 0)]) 3 48 Try.underlying26 hi0 hz0 hzs hzb rfl (by decide) (.slice A nn c) nn (dflat (R.filter (fun r => decide (r.n < (j : Int))) ++ [⟨(j : Int), br, none, 0, 0⟩] ++ highD (j : Int) R i)) rfl (by have := HO2.out; unfold OwnD at this; rw [← HK.out.1] at this; exact this) ⟨wr.heap.size, 0, none⟩ 1 1 (dcells y) rfl rfl (fun k u hu => by rw [Addr.add_lit, blk_cell HNW.out, Nat.zero_add, List.getElem?_toArray]; exact hu) (dcells_one _) (by have := HNN.out; unfold maxLen; omega) (by have := HNN.out; omega) HB2.out.size ?_; intro v3 w3 ho3 hg3 _; have HO3 := Aside0.mk ho3; have HG3 := Aside0.mk hg3; obtain ⟨A4, c4, e3, hc4⟩ := own_slice ho3; subst e3; clear ho3 hg3))
                go_roundw
                case rel => exact ⟨i + 1, nn + 1, A4, c4, rfl, by first | rfl | rw [HW.out] | go_num, by omega, ⟨by rw [HR.out, ← List.append_assoc]; exact HK.out.snoc HB2.out HO3.out HG3.out HO2.out⟩⟩
                case measure => (try rw [HW.out]); simp only [intOf]; omega
              · have HR := Aside0.mk (highD_out HY.out hq)
                go_wp2_with fail
                go_roundw
                case rel => exact ⟨i + 1, nn, A, c, rfl, by first | rfl | rw [HW.out] | go_num, by omega, ⟨by rw [HR.out]; exact HK.out⟩⟩
                case measure => (try rw [HW.out]); simp only [intOf]; omega
            · have hltz : ¬ (i : Int) < (R.length : Int) := by omega
              have HD := Aside0.mk (doc_put (B := w.heap.size) (M' := putM M (j : Int) (br, [])) (R' := R.filter (fun r => decide (r.n < (j : Int))) ++ [⟨(j : Int), br, none, 0, 0⟩] ++ highD (j : Int) R i) H.out HK.out.2.1 HK.out.2.2 (Nat.le_refl _) (by
                rw [highD_all (by omega), List.append_assoc, List.singleton_append]
                unfold putM
                exact Both.append (.cons (by have := HNEW.out; rw [← HN.out] at this; exact this) (Both.filter (fun a b q => by rw [q.1]) HBOTH.out)) (Both.filter (fun a b q => by rw [q.1]) HBOTH.out)))
              clear HK hlt
              go_wp2_with fail
              go_ret2
              exact ⟨by first | rfl | (rw [HN.out]; rfl) | (rw [← HN.out]; rfl), by have := HD.out.1; rw [HN.out] at this; exact this, HD.out.2⟩
    · rw [e1] at hcall
      have HC := Aside0.mk hcall
      have HN := Aside0.mk (show freeM M (5 - (j + 1)) (j + 1) = some n0 from by have := HI2.out; rw [e3, ← HJ.out.1.symm.symm] at *; rw [HJ.out.1] at this; simpa using this)
      have hge : (0 : Int) ≤ (i : Int) := by omega
      clear hcall e1 e2 e3 hk
      go_wp2_with (refine HC.out.mono ?_; rintro e w' ⟨rfl, rfl⟩)
      go_roundw
      case rel => exact ⟨j + 1, by first | rfl | rw [HW.out] | go_num, HJ.out.2, by first | exact ⟨rfl⟩ | exact ⟨trivial⟩, HN⟩
      case measure => (try rw [HW.out]); have := HJ.out; simp only [intOf]; omega
end Go.Proofs.Ytnbojemjaipnlaa.H
