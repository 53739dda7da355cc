/- same: has a tree the document's pairs: walked; TreeNil: walked. -/
import Derived.Test.YtbiccahkniadfaaTreeQ
import Derived.Test.YtbiccahkniadfaaTreeM
import Derived.BigQuiet
namespace Go.Proofs.Ytbiccahkniadfaa.H
open Go.RowKit Go.Proofs.Ytbiccahkniadfaa.P Go.Proofs.YtbiccahkniadfaaW.PrintWords Go.Proofs.YtbiccahkniadfaaW.PrintLast Go.Proofs.YtbiccahkniadfaaW.PrintMore
set_option linter.unusedVariables false
set_option linter.unusedSimpArgs false
set_option maxRecDepth 20000 in
set_option maxHeartbeats 4000000 in
theorem same_any (P : Option Addr) (t : T) (A : Option Addr) (c : Nat) (w : World) (h : RootAt w P t) (hs : sz t ≤ 40000) (hC : Kd.C k50 w A (encT (toL t)).length (encT (toL t))) :
    Calls Try.prog 24 #[.pointer P, .slice A (encT (toL t)).length c] w fun e w' => e = .returned (.bool true) ∧ Below w.heap.size w w' := by
  have hn : (encT (toL t)).length = sz t := by rw [encT_len, toL_len]
  have HPA := Aside0.mk (pairs_any P t w h hs)
  have HL := Aside0.mk (fun W hW => len_any P t W hW)
  have HR := Aside0.mk h
  have HC := Aside0.mk hC
  clear h hC
  generalize encT (toL t) = E at *
  generalize hnn : E.length = n at *
  have HNN := Aside0.mk hnn
  have HN := Aside0.mk (show n ≤ 40000 from by omega)
  rw [← hn] at HL
  clear hnn hn hs
  go_enter Try.func24, Try.ntmps24
  go_wp2_with fail
  refine HPA.out.mono ?_
  rintro e w1 ⟨⟨A2, c2, rfl, hc2, hC2⟩, hb⟩
  have HB := Aside0.mk hb
  have HC1 := Aside0.mk (Kd.C_below HC.out hb)
  have HC2 := Aside0.mk hC2
  have hlen := HL.out w1 (HR.out.below hb)
  clear hb hC2 HPA HL
  go_wp2_with fail
  refine hlen.mono ?_
  rintro e w2 ⟨rfl, rfl⟩
  clear hlen
  go_wp2_with fail
  go_loopw [6] (fun s6 wr => ∃ (j m : Nat), s6 = .int .i64 j ∧ j ≤ n ∧ wr = w2.drewN m) (fun s6 _ => n - (intOf s6).toNat)
  case atStart => exact ⟨0, 0, rfl, Nat.zero_le _, rfl⟩
  case round =>
    obtain ⟨j, m, rfl, hj, rfl⟩ := hrel
    have hn40 := HN.out
    by_cases h1 : j < n
    · have h1' : (j : Int) < (n : Int) := by omega
      obtain ⟨ad, rfl, a0, a1⟩ := at_T50 HC1.out j (by omega) (by omega)
      obtain ⟨ad2, rfl, b0, b1⟩ := at_T50 HC2.out j (by omega) (by omega)
      simp only [Int.toNat_natCast] at a0 a1 b0 b1
      go_wp2_with fail
      go_quiet (fail)
      go_wp2_with fail
      go_roundw
      case rel => exact ⟨j + 1, _, by go_num, by omega, rfl⟩
      case measure => simp [intOf]; omega
    · have h1' : ¬ (j : Int) < (n : Int) := by omega
      go_wp2_with fail
      go_ret
      exact ⟨rfl, below_drewN HB.out m⟩
end Go.Proofs.Ytbiccahkniadfaa.H
