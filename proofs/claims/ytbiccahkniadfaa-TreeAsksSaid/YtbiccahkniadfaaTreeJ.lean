/- The document's Drop, Put and Get on sorted pairs. -/
import Derived.Test.YtbiccahkniadfaaTreeI
namespace Go.Proofs.Ytbiccahkniadfaa.H
open Go.RowKit Go.Proofs.Ytbiccahkniadfaa.P Go.Proofs.YtbiccahkniadfaaW.PrintWords Go.Proofs.YtbiccahkniadfaaW.PrintLast Go.Proofs.YtbiccahkniadfaaW.PrintMore
set_option linter.unusedVariables false
set_option linter.unusedSimpArgs false
theorem enc_take (n : Nat) (L : List (Int × Int)) : (encT L).take n = encT (L.take n) := by unfold encT; rw [List.map_take]
theorem enc_drop (n : Nat) (L : List (Int × Int)) : (encT L).drop n = encT (L.drop n) := by unfold encT; rw [List.map_drop]
theorem enc_app (A B : List (Int × Int)) : encT A ++ encT B = encT (A ++ B) := by unfold encT; rw [List.map_append]
theorem drop_ev (k : Int) (L : List (Int × Int)) (hl : L.length ≤ 100000) (hs : L.Pairwise fun a b => a.1 < b.1) :
    Ev (fun n => waystoneref04_Drop.f n (encT L) k) (if hasL k L then (encT (lowL k L ++ uppL k L), (0 : Int)) else ([], 42)) := by
  unfold waystoneref04_Drop.f
  refine Ev.bind (find_srt k L hl hs) ?_
  have hle := low_le k L
  obtain ⟨p1, p2, _⟩ := parts k L hs
  have hw : wrap64 (((lowL k L).length : Int) + 1) = (((lowL k L).length + 1 : Nat) : Int) := by unfold wrap64; omega
  cases hq : hasL k L with
  | false => simp only [Bool.false_eq_true, if_false]; exact Ev.now _
  | true =>
    obtain ⟨p3, p4⟩ := p2 hq
    have hu : (uppL k L).length ≤ L.length := List.length_filter_le _ _
    simp only [if_true, Option.bind_some, encT_len, hw, Int.toNat_natCast, enc_take, enc_drop, p1, p3, List.nil_append, List.length_nil, enc_app, Nat.zero_add,
      show (0 : Int) ≤ ((lowL k L).length : Int) from by omega, show ((lowL k L).length : Int) ≤ (L.length : Int) from by omega,
      show (lowL k L).length < 8796093022208 from by omega, show (0 : Int) ≤ (((lowL k L).length + 1 : Nat) : Int) from by omega,
      show (((lowL k L).length + 1 : Nat) : Int) ≤ (L.length : Int) from by omega, show (lowL k L).length + (uppL k L).length < 8796093022208 from by omega]
    exact Ev.now _
end Go.Proofs.Ytbiccahkniadfaa.H
