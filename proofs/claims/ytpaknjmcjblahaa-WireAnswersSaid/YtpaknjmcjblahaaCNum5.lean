/- Num5 -/
import Derived.Test.YtpaknjmcjblahaaCNum4
namespace Go.Proofs.Ytpaknjmcjblahaa.H
open Go.RowKit Go.Proofs.Ytpaknjmcjblahaa.P Go.Proofs.YtpaknjmcjblahaaW.PrintWords Go.Proofs.YtpaknjmcjblahaaW.PrintLast Go.Proofs.YtpaknjmcjblahaaW.PrintMore
set_option linter.unusedVariables false
set_option maxRecDepth 20000
set_option linter.unusedSimpArgs false
theorem text_no (g : Nat) (l : List Int) (m : Int) (w : World) (h : RD w g l) (hb : bytes l) (hm : m ≤ 9223372036854775807) (hn0 : 0 ≤ (nextS l).1) (hn1 : (nextS l).1 < 18446744073709551616)
    (hn : (nextS l).2 = 0 ∨ m < 0 ∨ m < (nextS l).1 ∨ (l.length : Int) - (nextS l).2 < (nextS l).1) :
    Calls Try.prog 56 #[.pointer (some ⟨g, 0, none⟩), .int .i64 m] w fun e w' => e = .returned (.tuple #[.string ⟨#[]⟩, .int .i64 11]) ∧ w = w' := by
  have hle := nextS_le l
  obtain ⟨A, c, hg, hc, hr, _⟩ := h
  have hll := Kd.C_max hr
  have hcell := blk_cell hg 0
  simp only [List.getElem?_toArray, List.getElem?_cons_zero] at hcell
  have hN := next_any A c l w hr hc hb
  generalize (nextS l).1 = n at *
  generalize (nextS l).2 = k at *
  have HN := Aside0.mk hN
  have H1 := Aside0.mk hn1
  clear hN hg hr hn1
  by_cases hk : k = 0
  · subst hk
    go_enter Try.func56, Try.ntmps56
    go_wp2_with (go_at_call 65; refine HN.out.mono ?_; rintro e w' ⟨rfl, rfl⟩)
    go_ret2
    exact ⟨rfl, rfl⟩
  · have hk' : ((k : Int) == 0) = false := by simpa using hk
    by_cases hm0 : m < 0
    · have hm0' : decide (m < 0) = true := by simpa using hm0
      go_enter Try.func56, Try.ntmps56
      go_wp2_with (go_at_call 65; refine HN.out.mono ?_; rintro e w' ⟨rfl, rfl⟩)
      go_ret2
      exact ⟨rfl, rfl⟩
    · have hm0' : decide (m < 0) = false := by simpa using hm0
      by_cases hm1 : m < n
      · have hm1' : decide (m < n) = true := by simpa using hm1
        go_enter Try.func56, Try.ntmps56
        go_wp2_with (go_at_call 65; refine HN.out.mono ?_; rintro e w' ⟨rfl, rfl⟩)
        go_ret2
        exact ⟨rfl, rfl⟩
      · have hm1' : decide (m < n) = false := by simpa using hm1
        have hm2 : (l.length : Int) - k < n := by omega
        have hm2' : decide ((l.length : Int) - k < n) = true := by simpa using hm2
        have hkl : (k : Int) ≤ l.length := by omega
        go_enter Try.func56, Try.ntmps56
        go_wp2_with (go_at_call 65; refine HN.out.mono ?_; rintro e w' ⟨rfl, rfl⟩)
        go_ret2
        exact ⟨rfl, rfl⟩
theorem text_yes (g : Nat) (l : List Int) (m : Int) (w : World) (h : RD w g l) (hb : bytes l) (hm : m ≤ 9223372036854775807) (hn0 : 0 ≤ (nextS l).1)
    (h1 : (nextS l).2 ≠ 0) (h2 : 0 ≤ m) (h3 : (nextS l).1 ≤ m) (h4 : (nextS l).1 ≤ (l.length : Int) - (nextS l).2) :
    Calls Try.prog 56 #[.pointer (some ⟨g, 0, none⟩), .int .i64 m] w fun e w' => e = .returned (.tuple #[.string (strOfNums ((l.take ((nextS l).2 + (nextS l).1.toNat)).drop (nextS l).2)), .int .i64 0]) ∧ ∃ v, w' = w.setCell ⟨g, 0, none⟩ v ∧ RD w' g (l.drop ((nextS l).2 + (nextS l).1.toNat)) := by
  have hle := nextS_le l
  obtain ⟨A, c, hg, hc, hr, hbl⟩ := h
  have hll := Kd.C_max hr
  have hcell := blk_cell hg 0
  have hfr := blk_frozen hg 0
  simp only [List.getElem?_toArray, List.getElem?_cons_zero] at hcell
  have hN := next_any A c l w hr hc hb
  obtain ⟨i0, hi, hz0, hz1, hz2⟩ := info_parts info5
  generalize (nextS l).1 = n at *
  generalize (nextS l).2 = k at *
  obtain ⟨n, rfl⟩ := Int.eq_ofNat_of_zero_le hn0
  rw [Int.toNat_natCast]
  obtain ⟨A', hcut, hrd, hcc⟩ := print_drop_of (P := Try.prog) (Value.int .u8) 0 37 5 .i64 Try.underlying37 hi hz1 A c l ((k : Int) + n) (by omega) (by omega) hc
  obtain ⟨A2, hcut2, hrd2, hcc2⟩ := print_mid_of (P := Try.prog) (Value.int .u8) 0 37 5 .i64 .i64 Try.underlying37 hi hz1 A c l (k : Int) ((k : Int) + n) (by omega) (by omega) (by omega) hc
  rw [show ((k : Int) + n).toNat = k + n by omega] at hcut hrd hcc hcut2 hrd2 hcc2
  rw [Int.toNat_natCast] at hcut2 hrd2 hcc2
  have HBL := Aside0.mk (BL_drop hr hbl hrd)
  clear hbl
  have HN := Aside0.mk hN
  have HR' := Aside0.mk (Kd.reads_of_C (enc := Value.int .u8) (d := (0 : Int)) (h1 := fun _ => rfl) hr)
  have HG := Aside0.mk hg
  have HD := Aside0.mk hrd
  have hstr := Kd.C_string (P := Try.prog) (src := 37) (dst := 9) (c := c - k) Try.underlying37 Try.underlying5 Try.underlying9 (Kd.C_of_reads (h1 := fun _ => rfl) (hrd2 w HR'.out))
  generalize strOfNums ((l.take (k + n)).drop k) = S at *
  generalize ((l.take (k + n)).drop k) = M at *
  have hk' : ((k : Int) == 0) = false := by simpa using h1
  have hkl : (k : Int) ≤ l.length := by omega
  clear hN hg hr hrd hi hz0 hz1 hz2 hrd2 hcc2
  go_enter Try.func56, Try.ntmps56
  go_wp2_with (go_at_call 65; refine HN.out.mono ?_; rintro e w' ⟨rfl, rfl⟩)
  go_ret2
  refine ⟨rfl, _, rfl, A', c - (k + n), ?_, hcc, ?_, HBL.out⟩
  · have e := blk_set HG.out 0 (.slice A' (l.drop (k + n)).length (c - (k + n)))
    simpa using e
  · exact C_setCell (Kd.C_of_reads (h1 := fun _ => rfl) (HD.out w HR'.out)) HG.out (fun _ _ h => h) (RD.apart HG.out (Kd.C_of_reads (h1 := fun _ => rfl) (HD.out w HR'.out)))
end Go.Proofs.Ytpaknjmcjblahaa.H
