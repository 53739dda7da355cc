/- Clone, copied, With: walked. -/
import Derived.Test.YtdhkhbejedndoaaDoorBit4
import Derived.WalkSpells
namespace Go.Proofs.YtdhkhbejedndoaaDoor.H
open Go.RowKit Go.Proofs.YtdhkhbejedndoaaDoor.P Go.Proofs.YtdhkhbejedndoaaDoorW.PrintWords Go.Proofs.YtdhkhbejedndoaaDoorW.PrintLast Go.Proofs.YtdhkhbejedndoaaDoorW.PrintMore
set_option linter.unusedVariables false
set_option linter.unusedSimpArgs false
set_option maxRecDepth 20000 in
set_option maxHeartbeats 4000000 in
theorem clone_any (A : Option Addr) (c : Nat) (l : List Int) (w : World) (hC : Kd.C (Kd.int .u64) w A l.length l) (hl : l.length ≤ 1000) :
    Calls Tryd.prog 34 #[.slice A l.length c] w fun e w' => (∃ v, e = .returned v ∧ Kd.R (Kd.int .u64) 51 w' w.heap.size (fun _ => True) v l) ∧ Below w.heap.size w w' := by
  cases A with
  | none =>
    have h0 : l = [] := by
      rcases Nat.eq_zero_or_pos l.length with h | h
      · exact List.eq_nil_of_length_eq_zero h
      · obtain ⟨ad, h', _⟩ := hC.2.2 h
        cases h'
    subst h0
    have hnil := @Lib.run_eql_slice_nil Tryd.prog
    go_enter Tryd.func34, Tryd.ntmps34
    go_wp2_with fail
    go_ret
    exact ⟨⟨_, rfl, Kd.R_nil _ _ _ _ _⟩, Below.refl _ _⟩
  | some ad =>
    have HR0 := Aside0.mk hC
    have HL := Aside0.mk hl
    have HB := Aside0.mk (Below.refl w.heap.size w)
    clear hC hl
    have hnil := @Lib.run_eql_slice_nil Tryd.prog
    go_enter Tryd.func34, Tryd.ntmps34
    go_wp2_with (first
      | ((with_reducible refine gate_dst (N := 5) rfl ?_); refine Kd.R_lit (Kd.int .u64) _ 51 ?hg (N := 5) ?hd (xs := ([] : List Int)) (inner := []) (ok := fun _ => True) (okp := fun _ => True) ?hr ?hp (fun _ hk => hk) trivial (Below.refl _ _) (Nat.le_refl _) (by simp) ?_; (case hd => rfl); (case hg => rfl); (case hr => first | (go_simp; done) | (go_simp; rfl)); (case hp => exact (Reps.none _ _)); intro v1 w1 ho hb hg_ hnew_; clear hg_ hnew_; have HO := Aside0.mk ho; have HB1 := Aside0.mk hb; clear ho hb)
      | ((with_reducible refine gate_builtin (b := .append) (xs := #[.tmp 5, .tmp 6]) rfl ?_); at_builtin; refine Kd.R_append_rows (Kd.int .u64) (w0 := w) w.heap.size rfl (.tmp 5) (.tmp 6) 52 51 (.int .u64 0) 8 rfl Tryd.underlying52 info51 rfl (by decide) (by omega) v1 [] l _ _ _ (fun _ => True) (fun _ => False) rfl rfl ?aO ?aR (fun _ _ h => h) (fun _ h => h.elim) ?aF ?aB ?aS ?aL ?_; (case aR => exact (Kd.C_below HR0.out HB1.out)); (case aB => exact HB1.out); (case aF => exact (fun _ _ => trivial)); (case aO => exact HO.out); (case aS => exact HB1.out.size); (case aL => have := HL.out; simp only [List.length_nil]; omega); intro v2 w2 ho hb hg hat; have HO2 := Aside0.mk ho; have HB2 := Aside0.mk hb; clear ho hb hg hat))
    go_ret
    exact ⟨⟨_, rfl, by have := HO2.out; rwa [List.nil_append] at this⟩, HB2.out⟩
set_option maxRecDepth 20000 in
set_option maxHeartbeats 4000000 in
theorem copied_any (P : Option Addr) (m : List Bool) (w : World) (h : SetAt w P m) (hm : m.length ≤ 1024) :
    Calls Tryd.prog 27 #[.pointer P] w fun e w' => (∃ g, e = .returned (.pointer (some ⟨g, 0, none⟩)) ∧ OwnSet w' g w.heap.size m) ∧ Below w.heap.size w w' := by
  rcases h with ⟨rfl, rfl⟩ | ⟨g, A, c, rfl, hg, hc, hC⟩
  · go_enter Tryd.func27, Tryd.ntmps27
    go_wp2_with fail
    go_ret
    exact ⟨⟨_, rfl, _, blk_new w _, Nat.le_refl _, Kd.R_nil _ _ _ _ _⟩, (Below.refl w.heap.size w).alloc (Nat.le_refl _) _⟩
  · have HG := Aside0.mk hg
    have HC := Aside0.mk hC
    have hwl : (wordsOf m).length ≤ 100 := by rw [wordsOf_len]; omega
    have HBD := Aside0.mk (below_drew (Below.refl w.heap.size w))
    have HCL := Aside0.mk (clone_any A c (wordsOf m) w.drew (Kd.C_below hC HBD.out) (by omega))
    have hcell : w.cell? ⟨g, 0, none⟩ = some (.int .i64 (m.length : Nat)) ∧ w.cell? ⟨g, 1, none⟩ = some (.slice A (wordsOf m).length c) := ⟨blk_cell hg 0, blk_cell hg 1⟩
    generalize hn : ((m.length : Nat) : Int) = n at *
    have HN := Aside0.mk hn
    clear hg hC hc hn hm hwl
    generalize hws : wordsOf m = ws at *
    have HWS := Aside0.mk hws
    clear hws
    go_enter Tryd.func27, Tryd.ntmps27
    go_wp2_with fail
    go_region_held3 (fun w' => w'.cell? ⟨g, 0, none⟩ = some (.int .i64 n) ∧ w'.cell? ⟨g, 1, none⟩ = some (.slice A ws.length c)) (first | assumption | go_keep) (first
      | (go_at_call 34; refine HCL.out.mono ?_; rintro e w1 ⟨⟨v, rfl, hv⟩, hb⟩; have HV := Aside0.mk hv; have HB1 := Aside0.mk (HBD.out.trans (hb.mono HBD.out.size)); have K1 : w1.cell? ⟨g, 0, none⟩ = some (.int .i64 n) ∧ w1.cell? ⟨g, 1, none⟩ = some (.slice A ws.length c) := ⟨cb (blk_cell HG.out 0) HB1.out, cb (blk_cell HG.out 1) HB1.out⟩; obtain ⟨A1, c1, rfl⟩ := Kd.R_slice hv; clear hv hb))
    go_wp2_with fail
    go_ret
    exact ⟨⟨_, rfl, .slice A1 ws.length c1, by rw [HN.out]; exact blk_new w1 _, HB1.out.size, by rw [HWS.out]; exact Kd.R_below (show Kd.R (Kd.int .u64) 51 w1 w.heap.size (fun _ => True) (.slice A1 ws.length c1) ws from HV.out) ((Below.refl _ w1).alloc (Nat.le_refl _) _)⟩, HB1.out.alloc HB1.out.size _⟩
/-- A stretch of numbers is laid in. -/
def setR (m : List Bool) (i : Nat) : Nat → List Bool
  | 0 => m
  | d + 1 => setR (m.set i true) (i + 1) d
theorem setR_len (d : Nat) : ∀ (m : List Bool) (i : Nat), (setR m i d).length = m.length := by
  induction d with
  | zero => intro m i; rfl
  | succ d ih => intro m i; rw [setR, ih, List.length_set]
def withM (m : List Bool) (i k : Int) : Option (List Bool) := if 0 ≤ i ∧ i ≤ k ∧ k ≤ (m.length : Int) then some (setR m i.toNat (k - i).toNat) else none
set_option maxRecDepth 20000 in
set_option maxHeartbeats 4000000 in
theorem with_any (P : Option Addr) (m0 : List Bool) (i k0 : Int) (w : World) (h : SetAt w P m0) (hm : m0.length ≤ 1024) :
    Calls Tryd.prog 13 #[.pointer P, .int .i64 i, .int .i64 k0] w fun e w' => OfAt (withM m0 i k0) w e w' := by
  have hsz := size_any P m0 w h
  have HH := Aside0.mk h
  have HM0 := Aside0.mk hm
  generalize hrr : withM m0 i k0 = r at *
  have HRR := Aside0.mk hrr
  clear hrr h
  by_cases hi0 : i < 0
  · have HE := Aside0.mk (show r = none from by rw [← HRR.out, withM, if_neg (by omega)])
    clear hm
    go_enter Tryd.func13, Tryd.ntmps13
    go_wp2_with fail
    go_ret2
    exact ⟨.inl ⟨HE.out, rfl⟩, Below.refl _ _⟩
  by_cases hik : k0 < i
  · have HE := Aside0.mk (show r = none from by rw [← HRR.out, withM, if_neg (by omega)])
    clear hm
    go_enter Tryd.func13, Tryd.ntmps13
    go_wp2_with fail
    go_ret2
    exact ⟨.inl ⟨HE.out, rfl⟩, Below.refl _ _⟩
  by_cases hkm : (m0.length : Int) < k0
  · have HE := Aside0.mk (show r = none from by rw [← HRR.out, withM, if_neg (by omega)])
    generalize ((m0.length : Nat) : Int) = n at *
    clear hm
    go_enter Tryd.func13, Tryd.ntmps13
    go_wp2_with fail
    refine hsz.mono ?_
    rintro e w1 ⟨rfl, rfl⟩
    go_wp2_with fail
    go_ret2
    exact ⟨.inl ⟨HE.out, rfl⟩, Below.refl _ _⟩
  · obtain ⟨a, rfl⟩ : ∃ a : Nat, i = (a : Int) := ⟨i.toNat, by omega⟩
    obtain ⟨kk, rfl⟩ : ∃ kk : Nat, k0 = (kk : Int) := ⟨k0.toNat, by omega⟩
    have hak : a ≤ kk := by omega
    have hkl : kk ≤ m0.length := by omega
    have HE := Aside0.mk (show r = some (setR m0 a (kk - a)) from by rw [← HRR.out, withM, if_pos (by omega), Int.toNat_natCast, show ((kk : Int) - (a : Int)).toNat = kk - a by omega])
    have HKL := Aside0.mk hkl
    have hcp := copied_any P m0 w HH.out hm
    have hkm' : ¬ ((m0.length : Nat) : Int) < (kk : Int) := hkm
    generalize hnn : ((m0.length : Nat) : Int) = n at *
    have HNN := Aside0.mk hnn
    have hik' : ¬ (kk : Int) < (a : Int) := hik
    have hkk : kk ≤ 1024 := by omega
    clear hnn hkm hik hi0 hm hkl
    go_enter Tryd.func13, Tryd.ntmps13
    go_wp2_with fail
    refine hsz.mono ?_
    rintro e w1 ⟨rfl, rfl⟩
    clear hsz
    go_wp2_with fail
    refine hcp.mono ?_
    rintro e w2 ⟨⟨g, rfl, hg0⟩, hb⟩
    have HS := Aside0.mk hg0
    have HB := Aside0.mk hb
    clear hcp hg0 hb
    go_wp2_with fail
    go_loopw [1] (fun s1 wr => ∃ (k : Nat) (m : List Bool), s1 = .int .i64 k ∧ k ≤ kk ∧ Aside0 (m.length = m0.length) ∧ Aside0 (setR m0 a (kk - a) = setR m k (kk - k)) ∧ Aside0 (OwnSet wr g w1.heap.size m) ∧ Aside0 (Below w1.heap.size w1 wr)) (fun s _ => kk - (intOf s).toNat)
    case atStart => exact ⟨a, m0, rfl, hak, ⟨rfl⟩, ⟨rfl⟩, HS, HB⟩
    case round =>
      obtain ⟨k, m, rfl, hk1, HM, HY, HO, HBW⟩ := hrel
      by_cases h1 : k < kk
      · have h1' : (k : Int) < (kk : Int) := by omega
        have hk : k < m.length := by rw [HM.out]; have := HKL.out; omega
        have HN := Aside0.mk (show m.length ≤ 1024 from by rw [HM.out]; exact HM0.out)
        have HY2 := Aside0.mk (show setR m0 a (kk - a) = setR (m.set k true) (k + 1) (kk - (k + 1)) from by
          rw [HY.out, show kk - k = (kk - (k + 1)) + 1 by omega]; rfl)
        obtain ⟨v, hg, hbg, hR⟩ := HO.out
        obtain ⟨inner, hown⟩ := Kd.R_own hR
        have hkw : k / 64 < (wordsOf m).length := by rw [wordsOf_len]; omega
        obtain ⟨b, cap, rfl⟩ : ∃ b cap, v = .slice (some ⟨b, 0, none⟩) (wordsOf m).length cap := by
          rcases hown.2 with ⟨_, h0⟩ | ⟨b, cap, cur, rfl, _⟩
          · omega
          · exact ⟨b, cap, rfl⟩
        obtain ⟨c1, f1⟩ := Kd.R_cell (d := (0 : Int)) hR ((k / 64 : Nat) : Int) (by omega) (by omega)
        have hw0 := wordsOf_at m (k / 64) (by omega)
        have e0 : rdOf (0 : Int) (wordsOf m) ((k / 64 : Nat) : Int) = ((wordN m (k / 64) : Nat) : Int) := hw0
        rw [e0, Int.toNat_natCast] at c1
        rw [Int.toNat_natCast] at f1
        have c0 := blk_cell hg 1
        have HGG := Aside0.mk hg
        have HRR2 := Aside0.mk hR
        have hq1 : Int.tdiv (k : Int) 64 = ((k / 64 : Nat) : Int) := by rw [Int.tdiv_eq_ediv_of_nonneg (by omega)]; omega
        have hq2 : (k : Int) / 64 = ((k / 64 : Nat) : Int) := by omega
        have hm1 : Int.tmod (k : Int) 64 = ((k % 64 : Nat) : Int) := by rw [Int.tmod_eq_emod_of_nonneg (by omega)]; omega
        have hm2 : (k : Int) % 64 = ((k % 64 : Nat) : Int) := by omega
        have hr64 : k % 64 < 64 := Nat.mod_lt _ (by decide)
        generalize hqq : k / 64 = q at *
        generalize hss : k % 64 = s at *
        have HQS := Aside0.mk (And.intro hqq hss)
        have hwl : (wordsOf m).length ≤ 100 := by rw [wordsOf_len]; have := HN.out; omega
        have wq : IntKind.i64.wrap (q : Int) = (q : Int) := by rw [IntKind.wrap_i64]; omega
        have ws : IntKind.i64.wrap (s : Int) = (s : Int) := by rw [IntKind.wrap_i64]; omega
        have hkw1 : (q : Int) < ((wordsOf m).length : Int) := by omega
        clear hqq hss
        have hcell : wr.cell? ⟨g, 1, none⟩ = some (.slice (some ⟨b, 0, none⟩) (wordsOf m).length cap) ∧ wr.cell? ⟨b, q, none⟩ = some (.int .u64 ((wordN m q : Nat) : Int)) ∧ wr.frozen? ⟨b, q, none⟩ = false := ⟨c0, c1, f1⟩
        clear hw0 e0 hown hg hR c0 c1 f1
        go_wp2_with fail
        obtain ⟨x0, x1, x2⟩ := hcell
        go_region
        have e1 : Go.bits .or .u64 ((wordN m q : Nat) : Int) (IntKind.u64.wrap (2 ^ s)) = ((wordN m q ||| 2 ^ s : Nat) : Int) := or_pow _ s (wordN_lt m q) (by omega)
        have HO2 := Aside0.mk (OwnSet.lay k hk HGG.out hbg HRR2.out)
        rw [HQS.out.1, HQS.out.2] at HO2
        have HB2 := Aside0.mk (below_drew (HBW.out.setCell (p := ⟨b, q, none⟩) HO2.out.2 (.int .u64 ((wordN m q ||| 2 ^ s : Nat) : Int))))
        rw [e1]
        clear e1 x0 x1 x2 hq1 hq2 hm1 hm2
        generalize (wr.setCell ⟨b, q, none⟩ (.int .u64 ((wordN m q ||| 2 ^ s : Nat) : Int))).drew = w5 at *
        go_wp2_with fail
        go_roundw
        case rel => exact ⟨k + 1, m.set k true, by go_num, by omega, ⟨by rw [List.length_set]; exact HM.out⟩, HY2, ⟨HO2.out.1⟩, HB2⟩
        case measure => simp [intOf]; omega
      · have h1' : ¬ (k : Int) < (kk : Int) := by omega
        have HZ := Aside0.mk (show setR m0 a (kk - a) = m from by rw [HY.out, show kk - k = 0 by omega]; rfl)
        go_wp2_with fail
        go_ret2
        exact ⟨.inr ⟨m, g, by rw [HE.out, HZ.out], rfl, HO.out⟩, HBW.out⟩
end Go.Proofs.YtdhkhbejedndoaaDoor.H
