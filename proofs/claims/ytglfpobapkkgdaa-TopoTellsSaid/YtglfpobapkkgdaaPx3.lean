-- By myprint.py (a session's own program over the kit's print.py; some functions' texts are by hand). Lean checks it.
import Derived.Test.YtglfpobapkkgdaaPx0
import Derived.Test.YtglfpobapkkgdaaTopo4b
namespace Go.Proofs.Ytglfpobapkkgdaa.P
open Go.RowKit Go.Proofs.YtglfpobapkkgdaaW.PrintWords Go.Proofs.YtglfpobapkkgdaaW.PrintLast Go.Proofs.YtglfpobapkkgdaaW.PrintMore
attribute [local go_sem] max2_int min2_int max_two min_two max_three min_three max_four min_four   -- for this text's walks alone
set_option linter.unusedVariables false
set_option linter.unusedSimpArgs false

/-! ### waystonelaw08_fits: function 7 (by hand) -/
def waystonelaw08_fits.f (l0_0 : List Int) (l0_1 : List (S38)) : Option Bool := none
theorem waystonelaw08_fits.calls : True := trivial

-- NOT PRINTED: function 37 (slices_IndexFunc_int_int)

-- NOT PRINTED: function 25 (slices_ContainsFunc_int_int)

-- NOT PRINTED: function 38 (api_Link_38)

-- NOT PRINTED: function 27 (api_Link_27)

-- NOT PRINTED: function 29 (topo_joined)

/-! ### topo_Right: function 8 (by hand) -/
def topo_Right.f (l0_0 : List Int) (l0_1 : List (S38)) : Option Bool := none
theorem topo_Right.calls : True := trivial

/-! ### topo_Next: function 10 (by hand) -/
def topo_Next.f (l0_0 : List Int) (l0_1 : List (S38)) (a1_0 : Int) (a1_1 : Int) : Option (Int × Int × Bool) := none
theorem topo_Next.calls : True := trivial

/-! ### topo_Edges: function 12 (by hand) -/
def topo_Edges.f (l0_0 : List Int) (l0_1 : List (S38)) : Option (List S27) := none
theorem topo_Edges.calls : True := trivial

/-! ### topo_Reaches: function 13 (by hand) -/
def topo_Reaches.f (l0_0 : List Int) (l0_1 : List (S38)) (a1 : Int) (a2 : Int) : Option (Bool) := none
theorem topo_Reaches.calls : True := trivial

/-! ### waystonelaw08_two: function 30 (by hand) -/
def waystonelaw08_two.f : Option (List Int × List (S38)) := none
theorem waystonelaw08_two.calls : True := trivial

/-! ### waystonelaw08_alive: function 9 (by hand) -/
def waystonelaw08_alive.f : Option Bool := none
theorem waystonelaw08_alive.calls : True := trivial

/-! ### topo_Has: function 11 (by hand) -/
def topo_Has.f (l0_0 : List Int) (l0_1 : List (S38)) (a1_0 : Int) (a1_1 : Int) : Option (Bool) := none
theorem topo_Has.calls : True := trivial

/-! ### waystoneref08_Has: function 22 (by hand) -/
def waystoneref08_Has.f (l0_0 : List Int) (l0_1 : List (S38)) (a1_0 : Int) (a1_1 : Int) : Option (Bool) := some (Go.Proofs.Ytglfpobapkkgdaa.H.hasB l0_0 ⟨a1_0, a1_1⟩)
theorem waystoneref08_Has.calls (A0_0 : Option Addr) (c0_0 : Nat) (l0_0 : List Int) (A0_1 : Option Addr) (c0_1 : Nat) (l0_1 : List (S38)) (a1_0 : Int) (a1_1 : Int) (r : Bool) (w : World) (hr0_0 : Kd.C (Kd.int .i64) w A0_0 l0_0.length l0_0) (hc0_0 : l0_0.length ≤ c0_0) (hr0_1 : Kd.C k38 w A0_1 l0_1.length l0_1) (hc0_1 : l0_1.length ≤ c0_1) (h : waystoneref08_Has.f l0_0 l0_1 a1_0 a1_1 = some r) :
    Calls Try.prog 22 #[.agg #[.slice A0_0 l0_0.length c0_0, .slice A0_1 l0_1.length c0_1], .agg #[.int .i64 a1_0, .int .i64 a1_1]] w fun e w' => e = .returned (.bool r) ∧ Below w.heap.size w w' := by
  cases h
  exact Go.Proofs.Ytglfpobapkkgdaa.H.refHas_any A0_0 c0_0 l0_0 (.slice A0_1 l0_1.length c0_1) ⟨a1_0, a1_1⟩ w hr0_0 rfl

end Go.Proofs.Ytglfpobapkkgdaa.P
