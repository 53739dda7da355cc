/- TreeNil: walked. -/
import Derived.Test.YtbiccahkniadfaaTreeR
namespace Go.Proofs.Ytbiccahkniadfaa.H
open Go.RowKit Go.Proofs.Ytbiccahkniadfaa.P Go.Proofs.YtbiccahkniadfaaW.PrintWords Go.Proofs.YtbiccahkniadfaaW.PrintLast Go.Proofs.YtbiccahkniadfaaW.PrintMore
set_option linter.unusedVariables false
set_option linter.unusedSimpArgs false
theorem floor_leaf (k : Int) : floorT k .leaf = ((0, 0), false) := by
  unfold floorT
  rw [show (atT .leaf (belowT k .leaf : Nat)) = ((0, 0), false) from rfl]
  rfl
theorem ceil_leaf (k : Int) : ceilT k .leaf = ((0, 0), false) := rfl
set_option maxRecDepth 20000 in
set_option maxHeartbeats 4000000 in
theorem TreeNil_any (k : Int) (w : World) (wk : (Lit.int .u64 k).wf = true) :
    Calls Try.prog 8 #[.int .u64 k] w fun e w' => e = .returned (.bool true) ∧ Below w.heap.size w w' := by
  have hN : ∀ W : World, RootAt W none .leaf := fun W => .inl ⟨rfl, rfl⟩
  have HGE := Aside0.mk (fun W => get_any none k .leaf W (hN W))
  have HFL := Aside0.mk (fun W => floor_any none k .leaf W (hN W) (by decide))
  have HCE := Aside0.mk (fun W => ceil_any none k .leaf W (hN W) (by decide))
  have HAT := Aside0.mk (fun W => at_any none 0 .leaf W (hN W) (by decide))
  have HDR := Aside0.mk (fun W => drop_no none k .leaf W (hN W) (by decide) rfl)
  have HPU := Aside0.mk (fun W => put_ok none k 3 .leaf W (hN W) (by decide) rfl)
  have HSP := Aside0.mk (fun W => split_any none k .leaf W (hN W) (by decide))
  have HLE := Aside0.mk (fun W => len_any none .leaf W (hN W))
  have HHE := Aside0.mk (fun W => height_any none .leaf W (hN W))
  have HPA := Aside0.mk (fun W => pairs_any none .leaf W (hN W) (by decide))
  have HAL := Aside0.mk alive_any
  rw [floor_leaf] at HFL
  rw [ceil_leaf] at HCE
  rw [show atT .leaf 0 = ((0, 0), false) from rfl] at HAT
  rw [show getT k .leaf = none from rfl] at HGE
  rw [show withT k 3 .leaf = .node .leaf k 3 .leaf from rfl] at HPU
  rw [show cutT k .leaf = (.leaf, .leaf) from rfl] at HSP
  rw [show ((sz .leaf : Nat) : Int) = 0 from rfl] at HLE
  rw [show ((ht .leaf : Nat) : Int) = 0 from rfl] at HHE
  rw [show encT (toL .leaf) = [] from rfl] at HPA
  simp only [Option.getD_none, Option.isSome_none, List.length_nil] at HGE HFL HCE HAT HPA HSP
  have HB0 := Aside0.mk (Below.refl w.heap.size w)
  clear hN wk
  go_enter Try.func8, Try.ntmps8
  go_wp2_with fail
  refine (HGE.out w).mono ?_
  rintro e w1 ⟨rfl, rfl⟩
  go_wp2_with fail
  refine (HFL.out _).mono ?_
  rintro e w2 ⟨rfl, hb⟩
  have HB2 := Aside0.mk ((HB0.out.trans hb).alloc hb.size (.cells #[.int .u64 0, .int .i64 0] 45))
  clear hb
  go_wp2_with fail
  generalize (w2.alloc (.cells #[.int .u64 0, .int .i64 0] 45)) = w3 at *
  refine (HCE.out _).mono ?_
  rintro e w4 ⟨rfl, hb⟩
  have HB4 := Aside0.mk ((HB2.out.trans (hb.mono HB2.out.size)).alloc (Nat.le_trans HB2.out.size hb.size) (.cells #[.int .u64 0, .int .i64 0] 45))
  clear hb
  go_wp2_with fail
  generalize (w4.alloc (.cells #[.int .u64 0, .int .i64 0] 45)) = w5 at *
  refine (HAT.out _).mono ?_
  rintro e w6 ⟨rfl, hb⟩
  have HB6 := Aside0.mk ((HB4.out.trans (hb.mono HB4.out.size)).alloc (Nat.le_trans HB4.out.size hb.size) (.cells #[.int .u64 0, .int .i64 0] 45))
  clear hb
  go_wp2_with fail
  generalize (w6.alloc (.cells #[.int .u64 0, .int .i64 0] 45)) = w7 at *
  refine (HDR.out _).mono ?_
  rintro e w8 ⟨rfl, hb⟩
  have HB8 := Aside0.mk (HB6.out.trans (hb.mono HB6.out.size))
  clear hb
  go_wp2_with fail
  refine (HPU.out _).mono ?_
  rintro e w9 ⟨⟨g, rfl, hg⟩, hb⟩
  have HG := Aside0.mk hg
  have HB9 := Aside0.mk (HB8.out.trans (hb.mono HB8.out.size))
  clear hb hg
  go_wp2_with fail
  refine (HSP.out _).mono ?_
  rintro e wa ⟨⟨x, y, rfl, hx, hy⟩, hb⟩
  have HGa := Aside0.mk (HG.out.below hb)
  have HXa := Aside0.mk hx
  have HYa := Aside0.mk hy
  have HBa := Aside0.mk (HB9.out.trans (hb.mono HB9.out.size))
  clear hb hx hy
  go_wp2_with fail
  refine (HAL.out _).mono ?_
  rintro e wb ⟨rfl, hb⟩
  have HGb := Aside0.mk (HGa.out.below hb)
  have HXb := Aside0.mk (HXa.out.below hb)
  have HYb := Aside0.mk (HYa.out.below hb)
  have HBb := Aside0.mk (HBa.out.trans (hb.mono HBa.out.size))
  clear hb
  have hl := len_any _ _ wb HGb.out
  rw [show ((sz (.node .leaf k 3 .leaf) : Nat) : Int) = 1 from rfl] at hl
  go_wp2_with fail
  refine hl.mono ?_
  rintro e wc ⟨rfl, rfl⟩
  clear hl
  go_wp2_with fail
  refine (HLE.out _).mono ?_
  rintro e wd ⟨rfl, rfl⟩
  go_wp2_with fail
  refine (HHE.out _).mono ?_
  rintro e we ⟨rfl, rfl⟩
  go_wp2_with fail
  refine (HPA.out _).mono ?_
  rintro e wf ⟨⟨A, c, rfl, _, _⟩, hb⟩
  have HXf := Aside0.mk (HXb.out.below hb)
  have HYf := Aside0.mk (HYb.out.below hb)
  have HBf := Aside0.mk (HBb.out.trans (hb.mono HBb.out.size))
  clear hb
  have h1 := len_any _ _ wf HXf.out
  have h2 := len_any _ _ wf HYf.out
  rw [show ((sz .leaf : Nat) : Int) = 0 from rfl] at h1 h2
  go_wp2_with fail
  refine h1.mono ?_
  rintro e wg ⟨rfl, rfl⟩
  go_wp2_with fail
  refine h2.mono ?_
  rintro e wh ⟨rfl, rfl⟩
  clear h1 h2
  go_wp2_with fail
  go_ret
  exact ⟨rfl, HBf.out⟩
end Go.Proofs.Ytbiccahkniadfaa.H
