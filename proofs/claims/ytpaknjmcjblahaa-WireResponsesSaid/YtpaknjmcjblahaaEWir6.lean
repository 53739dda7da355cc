/- Px1, Wir6. -/
import Derived.Test.YtpaknjmcjblahaaENum3
import Derived.Test.YtpaknjmcjblahaaENum7
import Derived.Test.YtpaknjmcjblahaaEWir5
import Derived.Test.YtpaknjmcjblahaaEPx3
import Derived.Test.YtpaknjmcjblahaaEPx4
import Derived.Test.YtpaknjmcjblahaaEPx5
/-! ### Px1 -/
namespace Go.Proofs.Ytpaknjmcjblahaa.P
open Go.RowKit Go.Proofs.YtpaknjmcjblahaaW.PrintWords Go.Proofs.YtpaknjmcjblahaaW.PrintLast Go.Proofs.YtpaknjmcjblahaaW.PrintMore
set_option linter.unusedVariables false
set_option linter.unusedSimpArgs false
theorem eqA27 (d : Nat) (w : World) (x0 y0 : Int) (x1 y1 : Int) :
    (Op.equalIn (d + 2) 27 (.agg #[.int .u32 x0, .int .u32 x1]) (.agg #[.int .u32 y0, .int .u32 y1])).run Try.prog w = .ok (x0 == y0 && (x1 == y1)) w := by
  refine eqA_of Try.underlying27 (by kernel_rfl) ?_
  refine eqf_cons (by rfl) (by go_simp; rfl) (by go_simp; rfl) (by go_simp) ?_
  exact eqf_last (by rfl) (by go_simp; rfl) (by go_simp; rfl) (by go_simp)
theorem eqA29 (d : Nat) (w : World) (x0 y0 : Int) (x1 y1 : Int) (x2 y2 : Int) (x3 y3 : Int) (x4 y4 : Int) (x5 y5 : Int) (x6 y6 : Int) :
    (Op.equalIn (d + 3) 29 (.agg #[.int .i64 x0, .int .i64 x1, .int .i64 x2, .int .i64 x3, .int .u32 x4, .int .u32 x5, .int .i64 x6]) (.agg #[.int .i64 y0, .int .i64 y1, .int .i64 y2, .int .i64 y3, .int .u32 y4, .int .u32 y5, .int .i64 y6])).run Try.prog w = .ok (x0 == y0 && (x1 == y1 && (x2 == y2 && (x3 == y3 && ((x4 == y4 && (x5 == y5)) && (x6 == y6)))))) w := by
  refine eqA_of Try.underlying29 (by kernel_rfl) ?_
  refine eqf_cons (by rfl) (by go_simp; rfl) (by go_simp; rfl) (by go_simp) ?_
  refine eqf_cons (by rfl) (by go_simp; rfl) (by go_simp; rfl) (by go_simp) ?_
  refine eqf_cons (by rfl) (by go_simp; rfl) (by go_simp; rfl) (by go_simp) ?_
  refine eqf_cons (by rfl) (by go_simp; rfl) (by go_simp; rfl) (by go_simp) ?_
  refine eqf_cons (by rfl) (by go_simp) (by go_simp) (eqA27 (d + 0) w _ _ _ _) ?_
  exact eqf_last (by rfl) (by go_simp; rfl) (by go_simp; rfl) (by go_simp)
end Go.Proofs.Ytpaknjmcjblahaa.P
/-! ### Wir6 -/
namespace Go.Proofs.Ytpaknjmcjblahaa.H
open Go.RowKit Go.Proofs.Ytpaknjmcjblahaa.P Go.Proofs.YtpaknjmcjblahaaW.PrintWords Go.Proofs.YtpaknjmcjblahaaW.PrintLast Go.Proofs.YtpaknjmcjblahaaW.PrintMore
set_option linter.unusedVariables false
set_option linter.unusedSimpArgs false
set_option maxRecDepth 20000
structure Rq where
  k : Int
  s : Int
  nm : ByteArray
  ek : Int
  ru : Ru
  qk : Int
  qa : Int
  qb : Int
  qw : Int
  qf : Int
  qt : Int
  qo : ByteArray
def zRu : Ru := ⟨0, 0, 0, 0, ⟨0, 0⟩, 0⟩
def zRq : Rq := ⟨0, 0, ⟨#[]⟩, 0, zRu, 0, 0, 0, 0, 0, 0, ⟨#[]⟩⟩
def rqVals (r : Rq) : List Value := [.int .i64 r.k, .int .i64 r.s, .string r.nm, .int .i64 r.ek, .int .i64 r.ru.f0, .int .i64 r.ru.f1, .int .i64 r.ru.f2, .int .i64 r.ru.f3, .int .u32 r.ru.f4.f0, .int .u32 r.ru.f4.f1, .int .i64 r.ru.f5,
  .int .i64 r.qk, .int .i64 r.qa, .int .i64 r.qb, .int .i64 r.qw, .int .u32 r.qf, .int .u32 r.qt, .string r.qo]
def numsR (r : Ru) : List Int := [r.f0, r.f1, r.f2, r.f3, r.f4.f0, r.f4.f1, r.f5]
def partK (k : Int) : Int := if k = 0 ∨ k = 4 ∨ k = 5 ∨ k = 6 ∨ k = 9 then 1 else if k = 1 then 2 else if k = 7 then 3 else 0
def emptyS (s : ByteArray) : Bool := s.toList.isEmpty
def edZ (r : Rq) : Bool := r.ek == 0 && (r.ru.f0 == 0 && (r.ru.f1 == 0 && (r.ru.f2 == 0 && (r.ru.f3 == 0 && ((r.ru.f4.f0 == 0 && r.ru.f4.f1 == 0) && r.ru.f5 == 0)))))
def quZ (r : Rq) : Bool := r.qk == 0 && (r.qa == 0 && (r.qb == 0 && (r.qw == 0 && ((r.qf == 0 && r.qt == 0) && emptyS r.qo))))
def rightQ (r : Rq) : Bool :=
  allIn 9 [r.k] && allIn 255 [r.s, r.ek, r.qk, r.qa, r.qb, r.qw] && allIn 4294967295 (numsR r.ru) && !decide ((40 : Int) < (r.nm.size : Int)) && !decide ((40 : Int) < (r.qo.size : Int)) && !(r.k == 0 && r.s != 0) &&
    (partK r.k == 1 || emptyS r.nm) && (partK r.k == 2 || edZ r) && (partK r.k == 3 || quZ r)
theorem eqA31 (d : Nat) (w : World) (e f : Int) (x0 y0 : Int) (x1 y1 : Int) (x2 y2 : Int) (x3 y3 : Int) (x4 y4 : Int) (x5 y5 : Int) (x6 y6 : Int) :
    (Op.equalIn (d + 4) 31 (.agg #[.int .i64 e, .int .i64 x0, .int .i64 x1, .int .i64 x2, .int .i64 x3, .int .u32 x4, .int .u32 x5, .int .i64 x6]) (.agg #[.int .i64 f, .int .i64 y0, .int .i64 y1, .int .i64 y2, .int .i64 y3, .int .u32 y4, .int .u32 y5, .int .i64 y6])).run Try.prog w = .ok (e == f && (x0 == y0 && (x1 == y1 && (x2 == y2 && (x3 == y3 && ((x4 == y4 && (x5 == y5)) && (x6 == y6))))))) w := by
  refine eqA_of Try.underlying31 (by kernel_rfl) ?_
  refine eqf_cons (by rfl) (by go_simp; rfl) (by go_simp; rfl) (by go_simp) ?_
  exact eqf_last (by rfl) (by go_simp) (by go_simp) (eqA29 (d + 0) w _ _ _ _ _ _ _ _ _ _ _ _ _ _)
theorem eqA34 (d : Nat) (w : World) (x0 y0 : Int) (x1 y1 : Int) (x2 y2 : Int) (x3 y3 : Int) (x4 y4 : Int) (x5 y5 : Int) (s t : ByteArray) :
    (Op.equalIn (d + 3) 34 (.agg #[.int .i64 x0, .int .i64 x1, .int .i64 x2, .int .i64 x3, .int .u32 x4, .int .u32 x5, .string s]) (.agg #[.int .i64 y0, .int .i64 y1, .int .i64 y2, .int .i64 y3, .int .u32 y4, .int .u32 y5, .string t])).run Try.prog w = .ok (x0 == y0 && (x1 == y1 && (x2 == y2 && (x3 == y3 && ((x4 == y4 && (x5 == y5)) && (s.toList == t.toList)))))) w := by
  refine eqA_of Try.underlying34 (by kernel_rfl) ?_
  refine eqf_cons (by rfl) (by go_simp; rfl) (by go_simp; rfl) (by go_simp) ?_
  refine eqf_cons (by rfl) (by go_simp; rfl) (by go_simp; rfl) (by go_simp) ?_
  refine eqf_cons (by rfl) (by go_simp; rfl) (by go_simp; rfl) (by go_simp) ?_
  refine eqf_cons (by rfl) (by go_simp; rfl) (by go_simp; rfl) (by go_simp) ?_
  refine eqf_cons (by rfl) (by go_simp) (by go_simp) (eqA27 (d + 0) w _ _ _ _) ?_
  exact eqf_last (by rfl) (by go_simp; rfl) (by go_simp; rfl) (by go_simp)
theorem below_drewN {B : Nat} {w w1 : World} (h : Below B w w1) (n : Nat) : Below B w (w1.drewN n) := ⟨h.os, h.tape, h.output, h.size, h.block⟩
theorem evCast {α : Type} {g : Nat → Option α} {r r' : α} (h : Ev g r) (e : r = r') : Ev g r' := e ▸ h
theorem wr1 (j : Nat) (h : j < 9223372036854775807) : wrap64 ((j : Int) + 1) = ((j + 1 : Nat) : Int) := by unfold wrap64; omega
theorem counts_f (k : Int) : wire_counts.f 1 k = some (partK k) := by
  unfold wire_counts.f partK
  by_cases h0 : k = 0
  · simp [h0, wire_counts.j0]
  · by_cases h4 : k = 4
    · simp [h4, wire_counts.j0]
    · by_cases h5 : k = 5
      · simp [h5, wire_counts.j0]
      · by_cases h6 : k = 6
        · simp [h6, wire_counts.j0]
        · by_cases h9 : k = 9
          · simp [h9, wire_counts.j0]
          · simp only [h0, h4, h5, h6, h9, if_false, or_self, wire_counts.j0, beq_iff_eq]
            split
            · rfl
            · split <;> rfl
theorem counts_any (k : Int) (w : World) : Calls Try.prog 23 #[.int .i64 k] w fun e w' => e = .returned (.int .i64 (partK k)) ∧ Below w.heap.size w w' := by
  refine (wire_counts.calls 1 k _ w (counts_f k)).mono ?_
  rintro e w' ⟨rfl, ⟨m, rfl⟩⟩
  exact ⟨rfl, below_drewN (Below.refl _ _) m⟩
def okRu (r : Ru) : Prop := (0 ≤ r.f4.f0 ∧ r.f4.f0 ≤ 4294967295) ∧ 0 ≤ r.f4.f1 ∧ r.f4.f1 ≤ 4294967295
theorem nums_any (r : Ru) (h : okRu r) (w : World) : Calls Try.prog 25 #[.agg (ruleVals r).toArray] w fun e w' => (∃ A c, e = .returned (.slice A 7 c) ∧ 7 ≤ c ∧ Kd.C (Kd.int .i64) w' A 7 (numsR r)) ∧ Below w.heap.size w w' := by
  have e1 : wrap64 r.f4.f0 = r.f4.f0 := by have := h.1; unfold wrap64; omega
  have e2 : wrap64 r.f4.f1 = r.f4.f1 := by have := h.2; unfold wrap64; omega
  refine (wire_numbers.calls r.f0 r.f1 r.f2 r.f3 r.f4.f0 r.f4.f1 r.f5 (numsR r) w (by unfold wire_numbers.f numsR; rw [e1, e2])).mono ?_
  rintro e w' ⟨v, rfl, hR, hb⟩
  obtain ⟨A, c, rfl, h1, h2⟩ := Kd.R_reads hR
  exact ⟨⟨A, c, rfl, h1, h2⟩, hb⟩
theorem rdI_app (A B : List Int) (p : Int) : rd (A ++ p :: B) (A.length : Int) = p := by
  unfold rd
  rw [Int.toNat_natCast, List.getD_eq_getElem?_getD, List.getElem?_append_right (Nat.le_refl _), Nat.sub_self]; rfl
theorem all_l0 (most : Int) : ∀ (B A : List Int), (A ++ B).length ≤ 1000000 → A.any (outB most) = false → Ev (fun k => waystoneref17_all.l0 k most (A ++ B) (A.length : Int)) (allIn most (A ++ B))
  | [], A, hl, hA => by
    refine Ev.step (fun k => by rw [waystoneref17_all.l0]) ?_
    simp only [List.append_nil, Int.lt_irrefl, if_false]
    exact evCast (Ev.now _) (by unfold allIn; rw [hA]; rfl)
  | p :: B, A, hl, hA => by
    have hl2 : A.length + (B.length + 1) ≤ 1000000 := by rw [List.length_append, List.length_cons] at hl; exact hl
    have h1 : ((A.length : Nat) : Int) < ((A ++ p :: B).length : Int) := by rw [List.length_append, List.length_cons]; omega
    have h0 : (0 : Int) ≤ (A.length : Int) := by omega
    have hw := wr1 A.length (by omega)
    refine Ev.step (fun k => by rw [waystoneref17_all.l0]) ?_
    simp only [h1, h0, if_true, rdI_app, hw]
    by_cases c1 : p < 0
    · simp only [c1, if_true]
      exact evCast (Ev.now _) (by unfold allIn; rw [List.any_append, List.any_cons]; simp [outB, c1])
    · by_cases c2 : p > most
      · simp only [c1, c2, if_true, if_false]
        exact evCast (Ev.now _) (by have c3 : most < p := c2; unfold allIn; rw [List.any_append, List.any_cons]; simp [outB, c3])
      · simp only [c1, c2, if_false]
        have c3 : ¬ most < p := c2
        have ih := all_l0 most B (A ++ [p]) (by rw [List.append_assoc]; exact hl) (by rw [List.any_append, hA]; simp [outB, c1, c3])
        rw [List.append_assoc, List.length_append, List.length_singleton] at ih
        exact ih
end Go.Proofs.Ytpaknjmcjblahaa.H
