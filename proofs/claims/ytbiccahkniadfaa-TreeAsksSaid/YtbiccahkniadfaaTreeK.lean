/- The document's Put and Get on sorted pairs. -/
import Derived.Test.YtbiccahkniadfaaTreeJ
namespace Go.Proofs.Ytbiccahkniadfaa.H
open Go.RowKit Go.Proofs.Ytbiccahkniadfaa.P Go.Proofs.YtbiccahkniadfaaW.PrintWords Go.Proofs.YtbiccahkniadfaaW.PrintLast Go.Proofs.YtbiccahkniadfaaW.PrintMore
set_option linter.unusedVariables false
set_option linter.unusedSimpArgs false
theorem j0_no (n : Nat) (l : List S50) (k v x : Int) (b : Bool) : waystoneref04_Put.j0 (n + 1) l k v x b true = some ([], 41) := by
  rw [waystoneref04_Put.j0, if_pos rfl]
theorem lim_lt {n : Nat} (h : n ≤ 1000000) : n < 8796093022208 := Nat.lt_of_le_of_lt h (by decide)
theorem j0_yes (n : Nat) (l : List S50) (k v x : Int) (h0 : 0 ≤ x) (h1 : x ≤ (l.length : Int)) (hl : l.length ≤ 100000) (h2 : 0 ≤ wrap64 (x + 1)) (h3 : wrap64 (x + 1) ≤ (l.length : Int)) :
    waystoneref04_Put.j0 (n + 1) l k v x true false = some (l.take x.toNat ++ [(⟨k, v⟩ : S50)] ++ l.drop (wrap64 (x + 1)).toNat, 0) := by
  have b1 : (l.take x.toNat).length ≤ 100000 := Nat.le_trans (List.length_take_le _ _) (by omega)
  have b2 : (l.drop (wrap64 (x + 1)).toNat).length ≤ 100000 := by rw [List.length_drop]; omega
  rw [waystoneref04_Put.j0, if_neg (by decide), Option.bind_some, if_pos h0, if_pos h1, Option.bind_some]
  generalize l.take x.toNat = A at *
  generalize l.drop (wrap64 (x + 1)).toNat = B at *
  rw [if_pos (lim_lt (by rw [List.length_nil]; omega)), Option.bind_some, List.nil_append, if_pos (lim_lt (by omega)), Option.bind_some, if_pos rfl, if_pos h2, if_pos h3, Option.bind_some, if_pos (lim_lt (by rw [List.length_append, List.length_singleton]; omega))]
theorem j0_new (n : Nat) (l : List S50) (k v x : Int) (h0 : 0 ≤ x) (h1 : x ≤ (l.length : Int)) (hl : l.length ≤ 100000) :
    waystoneref04_Put.j0 (n + 1) l k v x false false = some (l.take x.toNat ++ [(⟨k, v⟩ : S50)] ++ l.drop x.toNat, 0) := by
  have b1 : (l.take x.toNat).length ≤ 100000 := Nat.le_trans (List.length_take_le _ _) (by omega)
  have b2 : (l.drop x.toNat).length ≤ 100000 := by rw [List.length_drop]; omega
  rw [waystoneref04_Put.j0, if_neg (by decide), Option.bind_some, if_pos h0, if_pos h1, Option.bind_some]
  generalize l.take x.toNat = A at *
  generalize l.drop x.toNat = B at *
  rw [if_pos (lim_lt (by rw [List.length_nil]; omega)), Option.bind_some, List.nil_append, if_pos (lim_lt (by omega)), Option.bind_some, if_neg (by decide), Option.bind_some, if_pos (lim_lt (by rw [List.length_append, List.length_singleton]; omega))]
theorem put_j0 (k v : Int) (L : List (Int × Int)) (hl : L.length ≤ 100000) (hs : L.Pairwise fun a b => a.1 < b.1) (n : Nat) :
    waystoneref04_Put.j0 (n + 1) (encT L) k v ((lowL k L).length : Int) (hasL k L) false = some (encT (lowL k L ++ (k, v) :: uppL k L), (0 : Int)) := by
  have hle := low_le k L
  obtain ⟨p1, p2, p3⟩ := parts k L hs
  have e1 : ([(⟨k, v⟩ : S50)] : List S50) = encT [(k, v)] := rfl
  have e2 : (encT L).length = L.length := encT_len L
  cases hq : hasL k L with
  | false =>
    rw [j0_new n (encT L) k v _ (by omega) (by omega) (by omega), Int.toNat_natCast, enc_take, enc_drop, p1, p3 hq, e1, enc_app, enc_app]
    simp
  | true =>
    obtain ⟨p4, p5⟩ := p2 hq
    have hw : wrap64 (((lowL k L).length : Int) + 1) = (((lowL k L).length + 1 : Nat) : Int) := by unfold wrap64; omega
    rw [j0_yes n (encT L) k v _ (by omega) (by omega) (by omega) (by omega) (by omega), hw, Int.toNat_natCast, Int.toNat_natCast, enc_take, enc_drop, p1, p4, e1, enc_app, enc_app]
    simp
theorem put_ev (k v : Int) (L : List (Int × Int)) (hl : L.length ≤ 100000) (hs : L.Pairwise fun a b => a.1 < b.1) :
    Ev (fun n => waystoneref04_Put.f n (encT L) k v) (if !hasL k L && decide (1024 ≤ L.length) then ([], (41 : Int)) else (encT (lowL k L ++ (k, v) :: uppL k L), 0)) := by
  unfold waystoneref04_Put.f
  refine Ev.bind (find_srt k L hl hs) ?_
  have h1 := put_j0 k v L hl hs
  cases hq : hasL k L with
  | true =>
    rw [hq] at h1
    simp only [if_true, Bool.not_true, Bool.false_and, Bool.false_eq_true, if_false]
    exact Ev.step h1 (Ev.now _)
  | false =>
    rw [hq] at h1
    simp only [Bool.false_eq_true, if_false, encT_len, Bool.not_false, Bool.true_and]
    by_cases c : 1024 ≤ L.length
    · simp only [show (L.length : Int) ≥ 1024 from by omega, c, decide_true, if_true]
      exact Ev.step (fun n => j0_no n _ _ _ _ _) (Ev.now _)
    · simp only [show ¬ (L.length : Int) ≥ 1024 from by omega, c, decide_false, Bool.false_eq_true, if_false]
      exact Ev.step h1 (Ev.now _)
end Go.Proofs.Ytbiccahkniadfaa.H
