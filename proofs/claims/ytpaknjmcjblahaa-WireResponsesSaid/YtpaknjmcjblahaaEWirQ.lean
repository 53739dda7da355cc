/- WirA, WirQ. -/
import Derived.Test.YtpaknjmcjblahaaEWir7
import Derived.Test.YtpaknjmcjblahaaEWir9
import Derived.BigQuiet
import Derived.Test.YtpaknjmcjblahaaEWir6
/-! ### WirA -/
namespace Go.Proofs.Ytpaknjmcjblahaa.H
open Go.RowKit Go.Proofs.Ytpaknjmcjblahaa.P Go.Proofs.YtpaknjmcjblahaaW.PrintWords Go.Proofs.YtpaknjmcjblahaaW.PrintLast Go.Proofs.YtpaknjmcjblahaaW.PrintMore
set_option linter.unusedVariables false
set_option linter.unusedSimpArgs false
set_option maxRecDepth 20000
theorem not_whole (m : Mc) {p : Prop} (h : (!m.bad && m.rest.isEmpty) = false) : m.bad = true ∨ 0 < m.rest.length ∨ p := by
  obtain ⟨r, b⟩ := m
  cases b with
  | true => exact .inl rfl
  | false => exact .inr (.inl (List.length_pos_iff.2 (fun e => by have e2 : r = [] := e; subst e2; cases h)))
theorem whole_any (t : Nat) (m : Mc) (w : World) (k : RT w t m) :
    Calls Try.prog 38 #[.pointer (some ⟨t, 0, none⟩)] w fun e w' => e = .returned (.bool (!m.bad && m.rest.isEmpty)) ∧ Below w.heap.size w w' := by
  obtain ⟨B, d, b, i, ⟨h1, h2, h3, h4⟩, h5, h6, _⟩ := k
  have d0 := blk_cell h1 0
  have d1 := blk_cell h1 1
  have d2 := blk_cell h1 2
  cases hb : m.bad with
  | true =>
    have d2 := (show _ = some (Value.bool m.bad) from d2)
    rw [hb] at d2
    clear h1 h3 h4 h5 h6 h2
    go_enter Try.func38, Try.ntmps38
    go_wp2_with fail
    go_quiet (fail)
    go_wp2_with fail
    go_ret
    exact ⟨rfl, below_drewN (Below.refl _ _) _⟩
  | false =>
    have d2 := (show _ = some (Value.bool m.bad) from d2)
    rw [hb] at d2
    have he : (m.rest.isEmpty) = ((i : Int) == (b.length : Int)) := by
      rw [show ((i : Int) == (b.length : Int)) = decide ((i : Int) = (b.length : Int)) from rfl]
      rw [← h5]
      by_cases e : i = b.length
      · subst e; simp
      · have : ¬ ((i : Int) = (b.length : Int)) := by omega
        simp [this, List.drop_eq_nil_iff]; omega
    rw [he]
    clear h1 h3 h4 h5 h6 h2 he
    go_enter Try.func38, Try.ntmps38
    go_wp2_with fail
    go_quiet (fail)
    go_wp2_with fail
    go_ret
    exact ⟨rfl, below_drewN (Below.refl _ _) _⟩
end Go.Proofs.Ytpaknjmcjblahaa.H
/-! ### WirQ -/
namespace Go.Proofs.Ytpaknjmcjblahaa.H
open Go.RowKit Go.Proofs.Ytpaknjmcjblahaa.P Go.Proofs.YtpaknjmcjblahaaW.PrintWords Go.Proofs.YtpaknjmcjblahaaW.PrintLast Go.Proofs.YtpaknjmcjblahaaW.PrintMore
set_option linter.unusedVariables false
set_option linter.unusedSimpArgs false
structure Rs where
  e : Int
  n : Int
  ids : List Int
  rules : List Ru
  h : Bool
  fr : Int
  ad : Int
  dv : List Int
  ft : Int
  od : Int
  op : Int
def zRs : Rs := ⟨0, 0, [], [], false, 0, 0, [], 0, 0, 0⟩
def rsVals (v2 v3 v7 : Value) (r : Rs) : List Value := [.int .i64 r.e, .int .i64 r.n, v2, v3, .bool r.h, .int .i64 r.fr, .int .u32 r.ad, v7, .int .i64 r.ft, .int .i64 r.od, .int .i64 r.op]
def outR (x : Ru) : Bool := !allIn 4294967295 (numsR x)
def formedB (r : Rs) : Bool :=
  decide ((r.ids.length : Int) ≤ 100) && (decide ((r.rules.length : Int) ≤ 100) && (decide ((r.dv.length : Int) ≤ 100) && (allIn 65535 [r.e] && (allIn 4294967295 [r.n] && (allIn 4294967295 r.ids && (allIn 255 [r.fr, r.ft, r.od, r.op] && (allIn 255 r.dv && !r.rules.any outR)))))))
end Go.Proofs.Ytpaknjmcjblahaa.H
