/- The document's reader: N, T: walked. -/
import Derived.Test.YtpaknjmcjblahaaAWir1
import Derived.Test.YtpaknjmcjblahaaAWir2
namespace Go.Proofs.Ytpaknjmcjblahaa.H
open Go.RowKit Go.Proofs.Ytpaknjmcjblahaa.P Go.Proofs.YtpaknjmcjblahaaW.PrintWords Go.Proofs.YtpaknjmcjblahaaW.PrintLast Go.Proofs.YtpaknjmcjblahaaW.PrintMore
set_option linter.unusedVariables false
set_option linter.unusedSimpArgs false
set_option maxRecDepth 20000
def RT (W : World) (g : Nat) (m : Mc) : Prop := ∃ B d b i, RM W g B d b i m.bad ∧ b.drop i = m.rest ∧ bytes b ∧ BL B b.length g
theorem Keep2.grown {g : Nat} {a b : World} (h : a.grownBy b (some g)) : Keep2 g g a b := ⟨h.os, h.tape, h.output, h.size, fun k hk h1 _ => h.block k hk (fun e => h1 (Option.some.inj e))⟩
theorem RT.below {W W' : World} {g : Nat} {m : Mc} (h : RT W g m) (hb : Below W.heap.size W W') : RT W' g m := by
  obtain ⟨B, d, b, i, ⟨h1, h2, h3, h4⟩, h5, h6, h7⟩ := h
  exact ⟨B, d, b, i, ⟨blk_below h1 hb, h2, h3, Kd.C_below h4 hb⟩, h5, h6, h7⟩
set_option maxHeartbeats 2000000 in
theorem refN_any (g : Nat) (m : Mc) (most : Int) (h0 : 0 ≤ most) (h1 : most ≤ 4294967295) (w : World) (k : RT w g m) :
    Calls Try.prog 35 #[.pointer (some ⟨g, 0, none⟩), .int .i64 most] w fun e w' => e = .returned (.int .i64 (numM most m).1) ∧ RT w' g (numM most m).2 ∧ Keep2 g g w w' := by
  obtain ⟨l0, bd⟩ := m
  have hw : IntKind.u64.wrap most = most := by simp [IntKind.wrap, IntKind.bits, IntKind.signed]; omega
  obtain ⟨B, d, b, i, hRM, hdr, hby, hbl⟩ := k
  simp only [] at hRM hdr
  have hc := refnumber_any g B d b i bd most w hRM hby h0
  rw [hdr] at hc
  have HBY := Aside0.mk hby
  have HBL := Aside0.mk hbl
  clear hbl
  have HDR := Aside0.mk hdr
  have HNM := Aside0.mk (show numM most ⟨l0, bd⟩ = if (nextS l0).2 ≠ 0 ∧ (nextS l0).1 ≤ most then ((nextS l0).1, ⟨l0.drop (nextS l0).2, bd⟩) else (0, ⟨l0, true⟩) from rfl)
  have HPB := Aside0.mk (fun h => (put_nextS l0 (by rw [← hdr]; exact bytes_drop hby i) h).2)
  generalize numM most ⟨l0, bd⟩ = r at *
  clear hRM hdr hby
  go_enter Try.func35, Try.ntmps35
  go_wp2_with fail
  refine hc.mono ?_
  rintro e w1 ⟨hg, ⟨c1, c2, rfl, hr⟩ | ⟨c1, rfl, hr⟩⟩
  · have HG := Aside0.mk (Keep2.grown hg)
    have HR := Aside0.mk hr
    have HE := Aside0.mk (show r = ((nextS l0).1, ⟨l0.drop (nextS l0).2, bd⟩) from by rw [HNM.out, if_pos ⟨c1, c2⟩])
    have hp := HPB.out c1
    clear hc hg hr HNM HPB
    generalize (nextS l0).1 = n at *
    generalize (nextS l0).2 = q at *
    have hwn : wrap64 n = n := by unfold wrap64; omega
    have hwn2 : IntKind.i64.wrap n = n := by rw [IntKind.wrap_i64]; omega
    go_wp2_with fail
    go_ret
    rw [HE.out]
    exact ⟨rfl, ⟨B, d, b, i + q, HR.out, by show b.drop (i + q) = l0.drop q; rw [← HDR.out, List.drop_drop], HBY.out, HBL.out⟩, HG.out⟩
  · have HG := Aside0.mk (Keep2.grown hg)
    have HR := Aside0.mk hr
    have HE := Aside0.mk (show r = (0, ⟨l0, true⟩) from by
      rw [HNM.out, if_neg]
      rintro ⟨d1, d2⟩
      rcases c1 with c1 | c1
      · exact d1 c1
      · omega)
    clear hc hg hr HNM HPB c1
    go_wp2_with fail
    go_ret
    rw [HE.out]
    exact ⟨rfl, ⟨B, d, b, i, HR.out, HDR.out, HBY.out, HBL.out⟩, HG.out⟩
set_option maxHeartbeats 2000000 in
theorem refT_any (g : Nat) (m : Mc) (w : World) (k : RT w g m) :
    Calls Try.prog 36 #[.pointer (some ⟨g, 0, none⟩), .int .i64 40] w fun e w' => e = .returned (.string (textM 40 m).1) ∧ RT w' g (textM 40 m).2 ∧ Keep2 g g w w' := by
  obtain ⟨l0, bd⟩ := m
  obtain ⟨B, d, b, i, hRM, hdr, hby, hbl⟩ := k
  simp only [] at hRM hdr
  have hc := reftext_rd g B d b i bd 40 w hRM hby (by omega) (by omega)
  rw [hdr] at hc
  have HBY := Aside0.mk hby
  have HBL := Aside0.mk hbl
  clear hbl
  have HDR := Aside0.mk hdr
  have HNM := Aside0.mk (show textM 40 ⟨l0, bd⟩ = if (nextS l0).2 ≠ 0 ∧ (nextS l0).1 ≤ 40 ∧ (nextS l0).1 ≤ (l0.length : Int) - (nextS l0).2 then
    (strOfNums ((l0.take ((nextS l0).2 + (nextS l0).1.toNat)).drop (nextS l0).2), ⟨l0.drop ((nextS l0).2 + (nextS l0).1.toNat), bd⟩) else (⟨#[]⟩, ⟨l0, true⟩) from rfl)
  generalize textM 40 ⟨l0, bd⟩ = r at *
  clear hRM hdr hby
  go_enter Try.func36, Try.ntmps36
  go_wp2_with fail
  refine hc.mono ?_
  rintro e w1 ⟨hg, ⟨c1, _, c2, c3, rfl, hr⟩ | ⟨c1, rfl, hr⟩⟩
  · have HG := Aside0.mk (Keep2.grown hg)
    have HR := Aside0.mk hr
    have HE := Aside0.mk (show r = (strOfNums ((l0.take ((nextS l0).2 + (nextS l0).1.toNat)).drop (nextS l0).2), ⟨l0.drop ((nextS l0).2 + (nextS l0).1.toNat), bd⟩) from by rw [HNM.out, if_pos ⟨c1, c2, c3⟩])
    clear hc hg hr HNM c1 c2 c3
    generalize strOfNums ((l0.take ((nextS l0).2 + (nextS l0).1.toNat)).drop (nextS l0).2) = s at *
    generalize (nextS l0).2 + (nextS l0).1.toNat = q at *
    go_wp2_with fail
    go_ret
    rw [HE.out]
    exact ⟨rfl, ⟨B, d, b, i + q, HR.out, by show b.drop (i + q) = l0.drop q; rw [← HDR.out, List.drop_drop], HBY.out, HBL.out⟩, HG.out⟩
  · have HG := Aside0.mk (Keep2.grown hg)
    have HR := Aside0.mk hr
    have HE := Aside0.mk (show r = (⟨#[]⟩, ⟨l0, true⟩) from by
      rw [HNM.out, if_neg]
      rintro ⟨d1, d2, d3⟩
      rcases c1 with c1 | c1 | c1 | c1
      · exact d1 c1
      · omega
      · omega
      · omega)
    clear hc hg hr HNM c1
    go_wp2_with fail
    go_ret
    rw [HE.out]
    exact ⟨rfl, ⟨B, d, b, i, HR.out, HDR.out, HBY.out, HBL.out⟩, HG.out⟩
end Go.Proofs.Ytpaknjmcjblahaa.H
