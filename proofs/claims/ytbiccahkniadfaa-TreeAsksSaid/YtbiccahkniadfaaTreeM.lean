/- Acts of a script, and how they are opened; what a script makes. -/
import Derived.Test.YtbiccahkniadfaaTreeL
import Derived.Test.YtbiccahkniadfaaOpen
namespace Go.Proofs.Ytbiccahkniadfaa.H
open Go.RowKit Go.Proofs.Ytbiccahkniadfaa.P Go.Proofs.Ytbiccahkniadfaa.Open Go.Proofs.YtbiccahkniadfaaW.PrintWords Go.Proofs.YtbiccahkniadfaaW.PrintLast Go.Proofs.YtbiccahkniadfaaW.PrintMore
set_option linter.unusedVariables false
set_option linter.unusedSimpArgs false
structure S42 where
  f0 : Int
  f1 : Int
  f2 : Int
  f3 : Bool
def z42 : S42 := ⟨0, 0, 0, false⟩
def k42 : Kd S42 := Kd.iso (Kd.pair (Kd.int .i64) (Kd.pair (Kd.int .i64) (Kd.pair (Kd.int .u64) Kd.bool))) (fun x : S42 => (x.f0, x.f1, x.f2, x.f3))
theorem k42_open {w : World} {x : S42} {cs : List Value} (h : k42.K w x cs) : cs = [.int .i64 x.f0, .int .i64 x.f1, .int .u64 x.f2, .bool x.f3] := by
  obtain ⟨c1, c2, rfl, h1, d1, d2, rfl, h2, e1, e2, rfl, h3, h4⟩ := h
  cases h1; cases h2; cases h3; cases h4
  rfl
def rd_T42 (xs : List S42) (i : Int) : S42 := xs.getD i.toNat z42
theorem at_T42 {w : World} {A : Option Addr} {n : Nat} {xs : List S42} (h : Kd.C k42 w A n xs) (i : Int) (h0 : 0 ≤ i) (h1 : i < n) : ∃ ad , A = some ad ∧ w.cell? (ad.add (i.toNat * 4)) = some (.int .i64 (rd_T42 xs i).f0) ∧ w.cell? ⟨(ad.add (i.toNat * 4)).block, (ad.add (i.toNat * 4)).off + 1, none⟩ = some (.int .i64 (rd_T42 xs i).f1) ∧ w.cell? ⟨(ad.add (i.toNat * 4)).block, (ad.add (i.toNat * 4)).off + 2, none⟩ = some (.int .u64 (rd_T42 xs i).f2) ∧ w.cell? ⟨(ad.add (i.toNat * 4)).block, (ad.add (i.toNat * 4)).off + 3, none⟩ = some (.bool (rd_T42 xs i).f3) := by
  obtain ⟨ad, c, e, _, hK, hc0⟩ := Kd.C_get h z42 i h0 h1
  have hc : ∀ j u, c[j]? = some u → w.cell? (ad.add (i.toNat * 4 + j)) = some u := hc0
  obtain rfl := k42_open hK
  exact ⟨ad, e, hc 0 _ rfl, by rw [← add_field _ _ 1 (by omega)]; exact hc 1 _ rfl, by rw [← add_field _ _ 2 (by omega)]; exact hc 2 _ rfl, by rw [← add_field _ _ 3 (by omega)]; exact hc 3 _ rfl⟩
def isI64 (x : Int) : Prop := (Lit.int .i64 x).wf = true
def isU64 (x : Int) : Prop := (Lit.int .u64 x).wf = true
theorem opensAct : Opens Try.prog 42 k42 (fun x => isI64 x.f0 ∧ isI64 x.f1 ∧ isU64 x.f2 ∧ True) := by
  refine' Opens.imp (Opens.iso (fun x : S42 => (x.f0, x.f1, x.f2, x.f3)) (fun y => ⟨y.1, y.2.1, y.2.2.1, y.2.2.2⟩) (fun _ => rfl) (OpensAt.struct' ?h Try.underlying42 (by kernel_rfl))) ?i
  case h => exact OpensAt.cons rfl (Opens.int Try.underlying3) (by kernel_rfl) (OpensAt.cons rfl (Opens.int Try.underlying3) (by kernel_rfl) (OpensAt.cons rfl (Opens.int Try.underlying22) (by kernel_rfl) (OpensAt.last rfl (Opens.bool Try.underlying4) (by kernel_rfl))))
  case i => exact fun x h => h
theorem opensActs : Opens Try.prog 35 (Kd.slice 42 k42) (fun x => ∀ y ∈ x, isI64 y.f0 ∧ isI64 y.f1 ∧ isU64 y.f2 ∧ True) := Opens.slice Try.underlying35 opensAct (by kernel_rfl)
def doA (a : S42) (t : T) : T := doT a.f0 a.f1 a.f2 a.f3 t
theorem new_fit : Fit .leaf := ⟨List.Pairwise.nil, trivial, Nat.zero_le _⟩
set_option maxRecDepth 20000 in
set_option maxHeartbeats 4000000 in
theorem asks_loop : True := trivial
end Go.Proofs.Ytbiccahkniadfaa.H
