/- Bok9, BokA, BokN. -/
import Derived.Test.YtnbojemjaipnlaaABok8
import Derived.Deep.LoopGhost
/-! ### Bok9 -/
namespace Go.Proofs.Ytnbojemjaipnlaa.H
open Go.RowKit Go.Proofs.Ytnbojemjaipnlaa.P Go.Proofs.YtnbojemjaipnlaaW.PrintWords Go.Proofs.YtnbojemjaipnlaaW.PrintLast Go.Proofs.YtnbojemjaipnlaaW.PrintMore
set_option linter.unusedVariables false
set_option linter.unusedSimpArgs false
set_option maxRecDepth 20000
theorem BookAt.look {w : World} {hb g : Nat} {M : List (Int × Ses)} (h : BookAt w hb g M) {n : Int} (hn : i64 n) :
    ∃ v, (Instr.lookup MapT (.map (some g)) (.int .i64 n) true).run Try.prog w = .ok (.tuple #[v, .bool (lookM M n).isSome]) w ∧ FoundAt w (lookM M n) v := by
  obtain ⟨_, R, hR, hM⟩ := h
  have hlk := hR.look hn
  rcases hM.look n with ⟨e1, e2⟩ | ⟨v, s, e1, e2, h3⟩
  · rw [e1] at hlk
    rw [e2]
    exact ⟨_, hlk, .inl ⟨rfl, rfl⟩⟩
  · rw [e1] at hlk
    rw [e2]
    exact ⟨_, hlk, .inr ⟨s, rfl, h3⟩⟩
def freeM (M : List (Int × Ses)) : Nat → Nat → Option Int
  | 0, _ => none
  | k + 1, j => if (lookM M (j : Int)).isSome = true then freeM M k (j + 1) else some (j : Int)
def openM (M : List (Int × Ses)) (br : ByteArray) : List (Int × Ses) × Int × Int := match freeM M 4 1 with | none => (M, 0, 182) | some n => (putM M n (br, []), n, 0)
set_option maxHeartbeats 4000000 in
theorem open_any (hb g : Nat) (M : List (Int × Ses)) (br : ByteArray) (w : World) (h : BookAt w hb g M) (hm : M.length ≤ 1000) :
    Calls Try.prog 18 #[.pointer (some ⟨hb, 0, none⟩), .string br] w (Does w hb g (openM M br).1 (.tuple #[.int .i64 (openM M br).2.1, .int .i64 (openM M br).2.2])) := by
  have H := Aside0.mk h
  have HM := Aside0.mk hm
  have hu := Try.underlying66
  have hu2 := Try.underlying64
  clear h hm
  go_enter Try.func18, Try.ntmps18
  go_wp2_with fail
  go_loopw [6] (fun s6 wr => ∃ j : Nat, s6 = .int .i64 j ∧ 1 ≤ j ∧ j ≤ 5 ∧ Aside0 (freeM M (5 - j) j = freeM M 4 1) ∧ Aside0 (Below w.heap.size w wr)) (fun s6 _ => 5 - (intOf s6).toNat)
  case atStart => exact ⟨1, rfl, Nat.le_refl _, by omega, ⟨rfl⟩, ⟨Below.refl _ w⟩⟩
  case round =>
    obtain ⟨j, rfl, hj1, hj5, HF, HB⟩ := hrel
    by_cases hlt : j ≤ 4
    · have hltz : (j : Int) ≤ 4 := by omega
      have hw0 : wrap64 ((j : Int) + 1) = ((j + 1 : Nat) : Int) := by unfold wrap64; omega
      have HW0 := Aside0.mk hw0
      clear hw0
      have HN := Aside0.mk (show i64 (j : Int) from by unfold i64; omega)
      have hbr := H.out.below HB.out
      have hc0 := hbr.cell
      obtain ⟨v, hlk, hf⟩ := hbr.look HN.out
      obtain ⟨br2, A, l, c, rfl, _, _, _⟩ := hf.open
      have hb3 := HB.out.alloc HB.out.size (.cells #[.string br2, .slice A l.length c] 66)
      have HB3 := Aside0.mk hb3
      cases hs : (lookM M (j : Int)).isSome with
      | true =>
        rw [hs] at hlk
        have HG := Aside0.mk (show freeM M (5 - (j + 1)) (j + 1) = freeM M 4 1 from by
          rw [← HF.out, show 5 - j = (5 - (j + 1)) + 1 by omega, freeM, if_pos hs])
        clear hbr hf hb3 hs
        go_wp2_with fail
        go_roundw
        case rel => exact ⟨j + 1, by first | rfl | rw [HW0.out] | go_num, by omega, by omega, HG, HB3⟩
        case measure => (try rw [HW0.out]); simp only [intOf]; omega
      | false =>
        rw [hs] at hlk
        have HG := Aside0.mk (show openM M br = (putM M (j : Int) (br, []), (j : Int), 0) from by
          unfold openM
          rw [← HF.out, show 5 - j = (4 - j) + 1 by omega, freeM, if_neg (by rw [hs]; simp)])
        have h3 := H.out.below hb3
        have hc3 := h3.cell
        obtain ⟨w4, hst, hbk, hbut⟩ := h3.store HN.out HM.out (ses_nil _ br)
        have HK := Aside0.mk hbk
        have HU := Aside0.mk ((ButS.of hb3).trans hbut)
        clear hbr hf hb3 hs h3 hbk hbut
        go_wp2_with fail
        go_ret2
        rw [HG.out]
        exact ⟨rfl, HK.out, HU.out⟩
    · have hltz : ¬ (j : Int) ≤ 4 := by omega
      have HG := Aside0.mk (show openM M br = (M, 0, 182) from by
        unfold openM
        rw [← HF.out, show 5 - j = 0 by omega, freeM])
      go_wp2_with fail
      go_ret2
      rw [HG.out]
      exact ⟨rfl, H.out.below HB.out, ButS.of HB.out⟩
end Go.Proofs.Ytnbojemjaipnlaa.H
/-! ### BokA -/
namespace Go.Proofs.Ytnbojemjaipnlaa.H
open Go.RowKit Go.Proofs.Ytnbojemjaipnlaa.P Go.Proofs.YtnbojemjaipnlaaW.PrintWords Go.Proofs.YtnbojemjaipnlaaW.PrintLast Go.Proofs.YtnbojemjaipnlaaW.PrintMore
set_option linter.unusedVariables false
set_option linter.unusedSimpArgs false
set_option maxRecDepth 20000
set_option maxHeartbeats 4000000 in
theorem find_nil (n : Int) (w : World) : Calls Try.prog 28 #[.pointer none, .int .i64 n] w fun e w' => e = .returned (.tuple #[.agg #[.string ⟨#[]⟩, .slice none 0 0], .int .i64 1]) ∧ Below w.heap.size w w' := by
  have hu := Try.underlying66
  have HB := Aside0.mk ((Below.refl w.heap.size w).alloc (Nat.le_refl _) zCells)
  go_enter Try.func28, Try.ntmps28
  go_wp2_with fail
  exact bodyPost_ret (v := .tuple #[zS, .int .i64 1]) (by simp [results, Try.results28, go_sem, zS]) rfl ⟨rfl, HB.out⟩
theorem open_nil (br : ByteArray) (w : World) : Calls Try.prog 18 #[.pointer none, .string br] w fun e w' => e = .returned (.tuple #[.int .i64 0, .int .i64 1]) ∧ Below w.heap.size w w' := by
  go_enter Try.func18, Try.ntmps18
  go_wp2_with fail
  go_ret2
  exact ⟨rfl, Below.refl _ _⟩
theorem sessions_nil (w : World) : Calls Try.prog 17 #[.pointer none] w fun e w' => e = .returned (.slice none 0 0) ∧ Below w.heap.size w w' := by
  go_enter Try.func17, Try.ntmps17
  go_wp2_with fail
  go_ret
  exact ⟨rfl, Below.refl _ _⟩
theorem copy_nil (w : World) : Calls Try.prog 16 #[.pointer none] w fun e w' => e = .returned (.pointer none) ∧ Below w.heap.size w w' := by
  go_enter Try.func16, Try.ntmps16
  go_wp2_with fail
  go_ret
  exact ⟨rfl, Below.refl _ _⟩
set_option maxHeartbeats 4000000 in
theorem on_nil (n : Int) (w : World) : Calls Try.prog 9 #[.pointer none, .int .i64 n] w fun e w' => e = .returned (.tuple #[.string ⟨#[]⟩, .int .i64 1]) ∧ Below w.heap.size w w' := by
  have hu := Try.underlying66
  go_enter Try.func9, Try.ntmps9
  go_wp2_with fail
  refine (find_nil n _).mono ?_
  rintro e w2 ⟨rfl, hb2⟩
  have HB2 := Aside0.mk (hb2)
  clear hb2
  go_wp2_with fail
  go_ret2
  exact ⟨rfl, HB2.out.alloc HB2.out.size _⟩
set_option maxHeartbeats 4000000 in
theorem close_nil (n : Int) (w : World) : Calls Try.prog 19 #[.pointer none, .int .i64 n] w fun e w' => e = .returned (.int .i64 1) ∧ Below w.heap.size w w' := by
  have hu := Try.underlying66
  go_enter Try.func19, Try.ntmps19
  go_wp2_with fail
  refine (find_nil n _).mono ?_
  rintro e w2 ⟨rfl, hb2⟩
  have HB2 := Aside0.mk (hb2)
  clear hb2
  go_wp2_with fail
  go_ret
  exact ⟨rfl, HB2.out.alloc HB2.out.size _⟩
set_option maxHeartbeats 4000000 in
theorem clear_nil (n : Int) (w : World) : Calls Try.prog 22 #[.pointer none, .int .i64 n] w fun e w' => e = .returned (.int .i64 1) ∧ Below w.heap.size w w' := by
  have hu := Try.underlying66
  go_enter Try.func22, Try.ntmps22
  go_wp2_with fail
  refine (find_nil n _).mono ?_
  rintro e w2 ⟨rfl, hb2⟩
  have HB2 := Aside0.mk (hb2)
  clear hb2
  go_wp2_with fail
  go_ret
  exact ⟨rfl, HB2.out.alloc HB2.out.size _⟩
set_option maxHeartbeats 4000000 in
theorem switch_nil (n : Int) (br : ByteArray) (w : World) : Calls Try.prog 20 #[.pointer none, .int .i64 n, .string br] w fun e w' => e = .returned (.int .i64 1) ∧ Below w.heap.size w w' := by
  have hu := Try.underlying66
  go_enter Try.func20, Try.ntmps20
  go_wp2_with fail
  refine (find_nil n _).mono ?_
  rintro e w2 ⟨rfl, hb2⟩
  have HB2 := Aside0.mk (hb2)
  clear hb2
  go_wp2_with fail
  go_ret
  exact ⟨rfl, HB2.out.alloc HB2.out.size _⟩
set_option maxHeartbeats 4000000 in
theorem stage_nil (n : Int) (x : Edi) (w : World) : Calls Try.prog 21 #[.pointer none, .int .i64 n, encEd x] w fun e w' => e = .returned (.int .i64 1) ∧ Below w.heap.size w w' := by
  have hu := Try.underlying66
  have HB0 := Aside0.mk ((Below.refl w.heap.size w).alloc (Nat.le_refl _) (.cells #[.int .i64 x.f0, .int .i64 x.f1.f0, .int .i64 x.f1.f1, .int .i64 x.f1.f2, .int .i64 x.f1.f3, .int .u32 x.f1.f4.f0, .int .u32 x.f1.f4.f1, .int .i64 x.f1.f5] 37))
  unfold encEd
  go_enter Try.func21, Try.ntmps21
  go_wp2_with fail
  refine (find_nil n _).mono ?_
  rintro e w2 ⟨rfl, hb2⟩
  have HB2 := Aside0.mk (HB0.out.trans (hb2.mono HB0.out.size))
  clear hb2
  go_wp2_with fail
  go_ret
  exact ⟨rfl, HB2.out.alloc HB2.out.size _⟩
set_option maxHeartbeats 4000000 in
theorem staged_nil (n : Int) (w : World) : Calls Try.prog 11 #[.pointer none, .int .i64 n] w fun e w' => ∃ v, e = .returned (.tuple #[v, .int .i64 1]) ∧ Below w.heap.size w w' := by
  have hu := Try.underlying66
  go_enter Try.func11, Try.ntmps11
  go_wp2_with fail
  refine (find_nil n _).mono ?_
  rintro e w2 ⟨rfl, hb2⟩
  have HB3 := Aside0.mk (hb2.alloc hb2.size zCells)
  have HCL := Aside0.mk (cloneE_any none 0 [] (w2.alloc zCells) ⟨rfl, by simp, fun h => absurd h (by simp)⟩ (Nat.le_refl _) (by simp))
  clear hb2
  go_wp2_with fail
  refine HCL.out.mono ?_
  rintro e w4 ⟨v, rfl, ho, hb4⟩
  have HB4 := Aside0.mk (HB3.out.trans (hb4.mono HB3.out.size))
  clear ho hb4 HCL
  go_wp2_with fail
  go_ret2
  exact ⟨v, rfl, HB4.out⟩
abbrev sx : ByteArray := ⟨#[120]⟩
abbrev sy : ByteArray := ⟨#[121]⟩
abbrev sz : ByteArray := ⟨#[122]⟩
def edD : Edi := ⟨1, ⟨0, 0, 0, 0, ⟨0, 0⟩, 0⟩⟩
def M1 : List (Int × Ses) := [(1, (sx, []))]
def M2 : List (Int × Ses) := [(1, (sx, [])), (2, (sy, []))]
def M3 : List (Int × Ses) := [(1, (sx, [])), (2, (sy, [edD]))]
def M4 : List (Int × Ses) := [(1, (sz, [])), (2, (sy, [edD]))]
theorem open1 : openM [] sx = (M1, 1, 0) := rfl
theorem open2 : openM M1 sy = (M2, 2, 0) := rfl
theorem stage1 : stageM M2 2 edD = (M3, 0) := rfl
theorem switch1 : switchM M3 2 sz = (M3, 162) := rfl
theorem switch2 : switchM M3 1 sz = (M4, 0) := rfl
set_option maxHeartbeats 4000000 in
theorem alive_any (w : World) : Calls Try.prog 13 #[] w fun e w' => e = .returned (.bool true) ∧ Below w.heap.size w w' := by
  have i1 : i64 1 := by unfold i64; omega
  have i2 : i64 2 := by unfold i64; omega
  go_enter Try.func13, Try.ntmps13
  go_wp2_with fail
  refine (new_any w).mono ?_
  rintro e w1 ⟨hb, g, rfl, hk, hg, hh, hb1⟩
  have HG := Aside0.mk hg
  have C0 := open_any hb g [] sx _ hk (by decide)
  rw [open1] at C0
  have C0 := Aside0.mk C0
  have HB1 := Aside0.mk hb1
  clear hk hb1 hg hh
  go_wp2_with fail
  refine C0.out.mono ?_
  rintro e w2 ⟨rfl, hk, hu⟩
  have hb2 := hu.below HB1.out (fun i hi => by rw [hi]; exact HG.out) (Nat.le_refl _)
  clear hu
  have C1 := open_any hb g M1 sy _ hk (by decide)
  rw [open2] at C1
  have C1 := Aside0.mk C1
  have HB2 := Aside0.mk hb2
  clear hk hb2
  go_wp2_with fail
  refine C1.out.mono ?_
  rintro e w3 ⟨rfl, hk, hu⟩
  have hb3 := hu.below HB2.out (fun i hi => by rw [hi]; exact HG.out) (Nat.le_refl _)
  clear hu
  have C2 := stage_any hb g M2 2 edD _ hk i2 (by decide)
  rw [stage1] at C2
  have C2 := Aside0.mk C2
  have HB3 := Aside0.mk hb3
  clear hk hb3
  go_wp2_with fail
  refine C2.out.mono ?_
  rintro e w4 ⟨rfl, hk, hu⟩
  have hb4 := hu.below HB3.out (fun i hi => by rw [hi]; exact HG.out) (Nat.le_refl _)
  clear hu
  have C3 := switch_any hb g M3 2 sz _ hk i2 (by decide)
  rw [switch1] at C3
  have C3 := Aside0.mk C3
  have HB4 := Aside0.mk hb4
  clear hk hb4
  go_wp2_with fail
  refine C3.out.mono ?_
  rintro e w5 ⟨rfl, hk, hu⟩
  have hb5 := hu.below HB4.out (fun i hi => by rw [hi]; exact HG.out) (Nat.le_refl _)
  clear hu
  have C4 := switch_any hb g M3 1 sz _ hk i1 (by decide)
  rw [switch2] at C4
  have C4 := Aside0.mk C4
  have HB5 := Aside0.mk hb5
  clear hk hb5
  go_wp2_with fail
  refine C4.out.mono ?_
  rintro e w6 ⟨rfl, hk, hu⟩
  have hb6 := hu.below HB5.out (fun i hi => by rw [hi]; exact HG.out) (Nat.le_refl _)
  clear hu
  have CO := on_any hb g M4 1 _ hk i1
  have CO := Aside0.mk (show Calls Try.prog 9 #[.pointer (some ⟨hb, 0, none⟩), .int .i64 1] w6 (fun e w' => e = .returned (.tuple #[.string ⟨#[122]⟩, .int .i64 0]) ∧ Below w6.heap.size w6 w') from CO)
  have HK := Aside0.mk hk
  have HB6 := Aside0.mk hb6
  clear hk hb6 i1
  go_wp2_with fail
  refine CO.out.mono ?_
  rintro e w7 ⟨rfl, hb7⟩
  have HK7 := Aside0.mk (HK.out.below hb7)
  have HB7 := Aside0.mk (HB6.out.trans (hb7.mono HB6.out.size))
  clear hb7
  have CT := staged_any hb g M4 2 _ HK7.out i2 (fun s hs => by cases hs; decide)
  have CT := Aside0.mk (show Calls Try.prog 11 #[.pointer (some ⟨hb, 0, none⟩), .int .i64 2] w7 (fun e w' => ∃ A c, e = .returned (.tuple #[.slice A 1 c, .int .i64 0]) ∧ _ ∧ _ ∧ Below w7.heap.size w7 w') from CT)
  clear i2
  go_wp2_with fail
  refine CT.out.mono ?_
  rintro e w8 ⟨A, c, rfl, _, _, hb8⟩
  have HK8 := Aside0.mk (HK7.out.below hb8)
  have HB8 := Aside0.mk (HB7.out.trans (hb8.mono HB7.out.size))
  clear hb8
  have CS := sessions_any hb g M4 _ HK8.out (by decide)
  have CS := Aside0.mk (show Calls Try.prog 17 #[.pointer (some ⟨hb, 0, none⟩)] w8 (fun e w' => ∃ A c, e = .returned (.slice A 2 c) ∧ _ ∧ _ ∧ Below w8.heap.size w8 w') from CS)
  go_wp2_with fail
  refine CS.out.mono ?_
  rintro e w9 ⟨A2, c2, rfl, _, _, hb9⟩
  have HB9 := Aside0.mk (HB8.out.trans (hb9.mono HB8.out.size))
  clear hb9
  go_wp2_with fail
  go_ret
  exact ⟨rfl, HB9.out⟩
end Go.Proofs.Ytnbojemjaipnlaa.H
/-! ### BokN -/
namespace Go.Proofs.Ytnbojemjaipnlaa.H
open Go.RowKit Go.Proofs.Ytnbojemjaipnlaa.P Go.Proofs.YtnbojemjaipnlaaW.PrintWords Go.Proofs.YtnbojemjaipnlaaW.PrintLast Go.Proofs.YtnbojemjaipnlaaW.PrintMore
set_option linter.unusedVariables false
set_option linter.unusedSimpArgs false
set_option maxRecDepth 20000
set_option maxHeartbeats 4000000 in
theorem bookNil_any (n : Int) (w : World) (_ : (Lit.int .i64 n).wf = true) : Calls Try.prog 5 #[.int .i64 n] w fun e w' => e = .returned (.bool true) ∧ Below w.heap.size w w' := by
  have cst := fun W => stage_nil n ⟨0, ⟨0, 0, 0, 0, ⟨0, 0⟩, 0⟩⟩ W
  unfold encEd at cst
  have CST := Aside0.mk cst
  clear cst
  go_enter Try.func5, Try.ntmps5
  have HB0 := Aside0.mk (Below.refl w.heap.size w)
  go_wp2_with fail
  refine (open_nil _ _).mono ?_
  rintro e w1 ⟨rfl, hb⟩
  have HB1 := Aside0.mk (HB0.out.trans (hb.mono HB0.out.size))
  clear hb
  go_wp2_with fail
  refine (on_nil _ _).mono ?_
  rintro e w2 ⟨rfl, hb⟩
  have HB2 := Aside0.mk (HB1.out.trans (hb.mono HB1.out.size))
  clear hb
  go_wp2_with fail
  refine (staged_nil _ _).mono ?_
  rintro e w3 ⟨v, rfl, hb⟩
  have HB3 := Aside0.mk (HB2.out.trans (hb.mono HB2.out.size))
  clear hb
  go_wp2_with fail
  refine (alive_any _).mono ?_
  rintro e w4 ⟨rfl, hb⟩
  have HB4 := Aside0.mk (HB3.out.trans (hb.mono HB3.out.size))
  clear hb
  go_wp2_with fail
  refine (close_nil _ _).mono ?_
  rintro e w5 ⟨rfl, hb⟩
  have HB5 := Aside0.mk (HB4.out.trans (hb.mono HB4.out.size))
  clear hb
  go_wp2_with fail
  refine (switch_nil _ _ _).mono ?_
  rintro e w6 ⟨rfl, hb⟩
  have HB6 := Aside0.mk (HB5.out.trans (hb.mono HB5.out.size))
  clear hb
  go_wp2_with fail
  refine (CST.out _).mono ?_
  rintro e w7 ⟨rfl, hb⟩
  have HB7 := Aside0.mk (HB6.out.trans (hb.mono HB6.out.size))
  clear hb
  go_wp2_with fail
  refine (clear_nil _ _).mono ?_
  rintro e w8 ⟨rfl, hb⟩
  have HB8 := Aside0.mk (HB7.out.trans (hb.mono HB7.out.size))
  clear hb
  go_wp2_with fail
  refine (sessions_nil _).mono ?_
  rintro e w9 ⟨rfl, hb⟩
  have HB9 := Aside0.mk (HB8.out.trans (hb.mono HB8.out.size))
  clear hb
  go_wp2_with fail
  refine (copy_nil _).mono ?_
  rintro e w10 ⟨rfl, hb⟩
  have HB10 := Aside0.mk (HB9.out.trans (hb.mono HB9.out.size))
  clear hb
  go_wp2_with fail
  go_ret
  exact ⟨rfl, HB10.out⟩
end Go.Proofs.Ytnbojemjaipnlaa.H
