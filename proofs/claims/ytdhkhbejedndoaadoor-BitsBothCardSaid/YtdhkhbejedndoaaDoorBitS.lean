/- What the laws' calls do, in short. -/
import Derived.Test.YtdhkhbejedndoaaDoorBitG
import Derived.Test.YtdhkhbejedndoaaDoorBitP
namespace Go.Proofs.YtdhkhbejedndoaaDoor.H
open Go.RowKit Go.Proofs.YtdhkhbejedndoaaDoor.P Go.Proofs.YtdhkhbejedndoaaDoorW.PrintWords Go.Proofs.YtdhkhbejedndoaaDoorW.PrintLast Go.Proofs.YtdhkhbejedndoaaDoorW.PrintMore
set_option linter.unusedVariables false
set_option linter.unusedSimpArgs false

theorem and_ok (m1 m2 : List Bool) (P1 P2 : Option Addr) (w : World) (h1 : SetAt w P1 m1) (h2 : SetAt w P2 m2) (hl : m2.length = m1.length) (hm1 : m1.length ≤ 1024) :
    Calls Tryd.prog 21 #[.pointer P1, .pointer P2] w fun e w' => ∃ g, e = .returned (.tuple #[.pointer (some ⟨g, 0, none⟩), .int .i64 0]) ∧ SetAt w' (some ⟨g, 0, none⟩) (bothM (· && ·) m1 m2) ∧ Below w.heap.size w w' := by
  refine (And_any m1 m2 P1 P2 w h1 h2 hm1).mono ?_
  rw [if_pos hl]
  rintro e w' ⟨h, hb⟩
  rcases h with ⟨h, _⟩ | ⟨m, g, h, he, hs⟩
  · cases h
  · cases h; exact ⟨g, he, hs.to, hb⟩
theorem or_ok (m1 m2 : List Bool) (P1 P2 : Option Addr) (w : World) (h1 : SetAt w P1 m1) (h2 : SetAt w P2 m2) (hl : m2.length = m1.length) (hm1 : m1.length ≤ 1024) :
    Calls Tryd.prog 16 #[.pointer P1, .pointer P2] w fun e w' => ∃ g, e = .returned (.tuple #[.pointer (some ⟨g, 0, none⟩), .int .i64 0]) ∧ SetAt w' (some ⟨g, 0, none⟩) (bothM (· || ·) m1 m2) ∧ Below w.heap.size w w' := by
  refine (Or_any m1 m2 P1 P2 w h1 h2 hm1).mono ?_
  rw [if_pos hl]
  rintro e w' ⟨h, hb⟩
  rcases h with ⟨h, _⟩ | ⟨m, g, h, he, hs⟩
  · cases h
  · cases h; exact ⟨g, he, hs.to, hb⟩
theorem minus_ok (m1 m2 : List Bool) (P1 P2 : Option Addr) (w : World) (h1 : SetAt w P1 m1) (h2 : SetAt w P2 m2) (hl : m2.length = m1.length) (hm1 : m1.length ≤ 1024) :
    Calls Tryd.prog 22 #[.pointer P1, .pointer P2] w fun e w' => ∃ g, e = .returned (.tuple #[.pointer (some ⟨g, 0, none⟩), .int .i64 0]) ∧ SetAt w' (some ⟨g, 0, none⟩) (bothM (fun a b => a && !b) m1 m2) ∧ Below w.heap.size w w' := by
  refine (Minus_any m1 m2 P1 P2 w h1 h2 hm1).mono ?_
  rw [if_pos hl]
  rintro e w' ⟨h, hb⟩
  rcases h with ⟨h, _⟩ | ⟨m, g, h, he, hs⟩
  · cases h
  · cases h; exact ⟨g, he, hs.to, hb⟩
theorem not_ok (m : List Bool) (P : Option Addr) (w : World) (h : SetAt w P m) (hm : m.length ≤ 1024) :
    Calls Tryd.prog 20 #[.pointer P] w fun e w' => ∃ g, e = .returned (.pointer (some ⟨g, 0, none⟩)) ∧ SetAt w' (some ⟨g, 0, none⟩) (notM m) ∧ Below w.heap.size w w' := by
  refine (Not_any m P w h hm).mono ?_
  rintro e w' ⟨⟨g, he, hs⟩, hb⟩
  exact ⟨g, he, hs, hb⟩
theorem list_ok (m : List Bool) (L : List Int) (hL : listM m = L) (P : Option Addr) (w : World) (h : SetAt w P m) (hm : m.length ≤ 1024) (hT : TabAt 0 Lib.deBruijn64tab w) :
    Calls Tryd.prog 19 #[.pointer P] w fun e w' => ∃ A c, e = .returned (.slice A L.length c) ∧ L.length ≤ c ∧ Kd.C (Kd.int .i64) w' A L.length L ∧ Below w.heap.size w w' := by
  refine (List_any m P w h hm hT).mono ?_
  rintro e w' ⟨⟨v, he, hv⟩, hb⟩
  rw [hL] at hv
  obtain ⟨A2, c2, rfl, hc2, hC2⟩ := Kd.R_reads hv
  exact ⟨A2, c2, he, hc2, hC2, hb⟩
theorem ints_ok (L : List Int) (hl : L.length ≤ 2000) (A1 : Option Addr) (c1 : Nat) (A2 : Option Addr) (c2 : Nat) (w : World) (h1 : Kd.C (Kd.int .i64) w A1 L.length L) (hc1 : L.length ≤ c1) (h2 : Kd.C (Kd.int .i64) w A2 L.length L) (hc2 : L.length ≤ c2) :
    Calls Tryd.prog 25 #[.slice A1 L.length c1, .slice A2 L.length c2] w fun e w' => e = .returned (.bool true) ∧ Below w.heap.size w w' := by
  obtain ⟨k, hk⟩ := (ints_ev L L hl).rounds
  rw [decide_eq_true rfl] at hk
  refine (waystoneref06_Ints.calls k A1 c1 L A2 c2 L true w h1 hc1 h2 hc2 hk).mono ?_
  rintro e w' ⟨he, hd⟩
  obtain ⟨d, rfl⟩ := hd
  exact ⟨he, below_drewN (Below.refl _ _) d⟩
theorem listM_le (m : List Bool) (hm : m.length ≤ 1024) : (listM m).length ≤ 2000 := by rw [listM_length]; have := cntM_le m; omega
theorem len_ok (m : List Bool) (x : Nat) (hx : cntM m = x) (P : Option Addr) (w : World) (h : SetAt w P m) (hm : m.length ≤ 1024) :
    Calls Tryd.prog 18 #[.pointer P] w fun e w' => e = .returned (.int .i64 (x : Nat)) ∧ Below w.heap.size w w' := by
  rw [← hx]; exact Len_any m P w h hm
theorem ref_both (how : Int) (f : Bool → Bool → Bool) (hf : bothF how = f) (hh : how = 1 ∨ how = 2 ∨ how = 3) (a b : List Bool) (hl : b.length = a.length) (ha : a.length ≤ 1024) (A1 : Option Addr) (c1 : Nat) (A2 : Option Addr) (c2 : Nat) (w : World)
    (h1 : Kd.C Kd.bool w A1 a.length a) (hc1 : a.length ≤ c1) (h2 : Kd.C Kd.bool w A2 b.length b) (hc2 : b.length ≤ c2) :
    Calls Tryd.prog 23 #[.slice A1 a.length c1, .slice A2 b.length c2, .int .i64 how] w fun e w' => ∃ A c, e = .returned (.slice A (bothM f a b).length c) ∧ (bothM f a b).length ≤ c ∧ Kd.C Kd.bool w' A (bothM f a b).length (bothM f a b) ∧ Below w.heap.size w w' := by
  obtain ⟨k, hk⟩ := (both_ev a b how hh hl ha).rounds
  rw [hf] at hk
  refine (waystoneref06_Both.calls k A1 c1 a A2 c2 b how _ w h1 hc1 h2 hc2 hk).mono ?_
  rintro e w' ⟨v, he, hv, hb⟩
  obtain ⟨A2, c2, rfl, hc2, hC2⟩ := Kd.R_reads hv
  exact ⟨A2, c2, he, hc2, hC2, hb⟩
theorem ref_of (size : Int) (l : List Int) (m : List Bool) (h : ofM size l = some m) (hl : l.length ≤ 9223372036854775807) (A : Option Addr) (c : Nat) (w : World) (hC : Kd.C (Kd.int .i64) w A l.length l) (hc : l.length ≤ c) :
    Calls Tryd.prog 9 #[.int .i64 size, .slice A l.length c] w fun e w' => ∃ A2 c2, e = .returned (.tuple #[.slice A2 m.length c2, .int .i64 0]) ∧ m.length ≤ c2 ∧ Kd.C Kd.bool w' A2 m.length m ∧ Below w.heap.size w w' := by
  obtain ⟨k, hk⟩ := (of_ev size l hl).rounds
  rw [h] at hk
  refine (waystoneref06_Of.calls k size A c l m 0 w hC hc hk).mono ?_
  rintro e w' ⟨v, he, hv, hb⟩
  obtain ⟨A2, c2, rfl, hc2, hC2⟩ := Kd.R_reads hv
  exact ⟨A2, c2, he, hc2, hC2, hb⟩
theorem ref_with (m n : List Bool) (i k : Int) (h : withM m i k = some n) (hm : m.length ≤ 1024) (A : Option Addr) (c : Nat) (w : World) (hC : Kd.C Kd.bool w A m.length m) (hc : m.length ≤ c) :
    Calls Tryd.prog 14 #[.slice A m.length c, .int .i64 i, .int .i64 k] w fun e w' => ∃ A2 c2, e = .returned (.tuple #[.slice A2 n.length c2, .int .i64 0]) ∧ n.length ≤ c2 ∧ Kd.C Kd.bool w' A2 n.length n ∧ Below w.heap.size w w' := by
  obtain ⟨j, hj⟩ := (with_ev m i k hm).rounds
  rw [h] at hj
  refine (waystoneref06_With.calls j A c m i k n 0 w hC hc hj).mono ?_
  rintro e w' ⟨v, he, hv, hb⟩
  obtain ⟨A2, c2, rfl, hc2, hC2⟩ := Kd.R_reads hv
  exact ⟨A2, c2, he, hc2, hC2, hb⟩
end Go.Proofs.YtdhkhbejedndoaaDoor.H
