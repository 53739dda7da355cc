/- WirG. -/
import Derived.Test.YtpaknjmcjblahaaEWirQ
import Derived.Test.YtpaknjmcjblahaaEPx7
import Derived.Test.YtpaknjmcjblahaaEPx6
namespace Go.Proofs.Ytpaknjmcjblahaa.H
open Go.RowKit Go.Proofs.Ytpaknjmcjblahaa.P Go.Proofs.YtpaknjmcjblahaaW.PrintWords Go.Proofs.YtpaknjmcjblahaaW.PrintLast Go.Proofs.YtpaknjmcjblahaaW.PrintMore
set_option linter.unusedVariables false
set_option linter.unusedSimpArgs false
set_option maxRecDepth 20000
def sameL {α : Type} (q : α → α → Bool) : List α → List α → Bool
  | [], [] => true
  | x :: xs, y :: ys => q x y && sameL q xs ys
  | _, _ => false
theorem sameL_iff {α : Type} {q : α → α → Bool} (hq : ∀ x y, q x y = true ↔ x = y) : ∀ l m : List α, sameL q l m = true ↔ l = m
  | [], [] => by simp [sameL]
  | [], y :: ys => by simp [sameL]
  | x :: xs, [] => by simp [sameL]
  | x :: xs, y :: ys => by
    rw [sameL, Bool.and_eq_true, hq, sameL_iff hq xs ys]
    exact ⟨fun ⟨a, b⟩ => by rw [a, b], fun h => by injection h with a b; exact ⟨a, b⟩⟩
theorem sameL_len {α : Type} {q : α → α → Bool} : ∀ l m : List α, l.length ≠ m.length → sameL q l m = false
  | [], [], h => absurd rfl h
  | [], y :: ys, _ => rfl
  | x :: xs, [], _ => rfl
  | x :: xs, y :: ys, h => by
    rw [sameL, sameL_len xs ys (by simp only [List.length_cons] at h; omega), Bool.and_false]
def neRu (x y : Ru) : Bool := !(x.f0 == y.f0) || (!(x.f1 == y.f1) || (!(x.f2 == y.f2) || (!(x.f3 == y.f3) || ((!(x.f4.f0 == y.f4.f0) || (!(x.f4.f1 == y.f4.f1))) || (!(x.f5 == y.f5))))))
def eqRu (x y : Ru) : Bool := !neRu x y
theorem eqRu_iff (x y : Ru) : eqRu x y = true ↔ x = y := by
  obtain ⟨a, b, c, d, ⟨e, f⟩, g⟩ := x
  obtain ⟨a', b', c', d', ⟨e', f'⟩, g'⟩ := y
  unfold eqRu neRu
  simp only [Bool.not_eq_true', Bool.or_eq_false_iff, Bool.not_eq_false', beq_iff_eq]
  constructor
  · rintro ⟨rfl, rfl, rfl, rfl, ⟨rfl, rfl⟩, rfl⟩; rfl
  · intro h
    injection h with h1 h2 h3 h4 h5 h6
    injection h5 with h5 h7
    exact ⟨h1, h2, h3, h4, ⟨h5, h7⟩, h6⟩
def eqI (x y : Int) : Bool := x == y
theorem eqI_iff (x y : Int) : eqI x y = true ↔ x = y := beq_iff_eq
theorem rdR_app (A B : List Ru) (p : Ru) : rd_T29 (A ++ p :: B) (A.length : Int) = p := by
  unfold rd_T29
  rw [Int.toNat_natCast, List.getD_eq_getElem?_getD, List.getElem?_append_right (Nat.le_refl _), Nat.sub_self]; rfl
theorem eqI_l0 : ∀ (B B' A A' : List Int), A.length = A'.length → B.length = B'.length → (A ++ B).length ≤ 1000000 →
    Ev (fun k => slices_Equal_int_int.l0 k (A ++ B) (A' ++ B') ((A ++ B).length : Int) (A.length : Int)) (sameL eqI B B')
  | [], [], A, A', h, _, hl => by
    refine Ev.step (fun k => by rw [slices_Equal_int_int.l0]) ?_
    simp only [List.append_nil, Int.lt_irrefl, if_false]
    exact Ev.now _
  | p :: B, p' :: B', A, A', h, hb, hl => by
    have hl2 : A.length + (B.length + 1) ≤ 1000000 := by rw [List.length_append, List.length_cons] at hl; exact hl
    have hb2 : B.length = B'.length := by simpa using hb
    have h1 : ((A.length : Nat) : Int) < ((A ++ p :: B).length : Int) := by rw [List.length_append, List.length_cons]; omega
    have h2 : ((A.length : Nat) : Int) < ((A' ++ p' :: B').length : Int) := by rw [List.length_append, List.length_cons, h]; omega
    have h0 : (0 : Int) ≤ (A.length : Int) := by omega
    have hw := wr1 A.length (by omega)
    have r2 : rd (A' ++ p' :: B') (A.length : Int) = p' := by rw [h]; exact rdI_app A' B' p'
    refine Ev.step (fun k => by rw [slices_Equal_int_int.l0]) ?_
    simp only [h1, h2, h0, if_true, rdI_app, r2, hw]
    by_cases c1 : p = p'
    · subst c1
      simp only [if_true]
      have ih := eqI_l0 B B' (A ++ [p]) (A' ++ [p]) (by simp [h]) hb2 (by rw [List.append_assoc]; exact hl)
      rw [show (A ++ [p]) ++ B = A ++ p :: B from by simp, show (A' ++ [p]) ++ B' = A' ++ p :: B' from by simp, show (A ++ [p]).length = A.length + 1 from by simp] at ih
      refine evCast ih ?_
      rw [sameL, show eqI p p = true from by simp [eqI], Bool.true_and]
    · simp only [c1, if_false]
      exact evCast (Ev.now _) (by rw [sameL, show eqI p p' = false from by simp [eqI, c1], Bool.false_and])
  | [], _ :: _, _, _, _, hb, _ => by simp at hb
  | _ :: _, [], _, _, _, hb, _ => by simp at hb
theorem eqI_f (l m : List Int) (hl : l.length ≤ 1000000) : Ev (fun k => slices_Equal_int_int.f k l m) (sameL eqI l m) := by
  unfold slices_Equal_int_int.f
  by_cases h : l.length = m.length
  · have h' : (l.length : Int) = (m.length : Int) := by omega
    simp only [if_pos h']
    exact eqI_l0 l m [] [] rfl h (by simpa using hl)
  · have h' : ¬ (l.length : Int) = (m.length : Int) := by omega
    simp only [if_neg h', sameL_len l m h]
    exact Ev.now _
theorem eqR_l0 : ∀ (B B' A A' : List Ru), A.length = A'.length → B.length = B'.length → (A ++ B).length ≤ 1000000 →
    Ev (fun k => api_Rule_51.l0 k (A ++ B) (A' ++ B') ((A ++ B).length : Int) (A.length : Int)) (sameL eqRu B B')
  | [], [], A, A', h, _, hl => by
    refine Ev.step (fun k => by rw [api_Rule_51.l0]) ?_
    simp only [List.append_nil, Int.lt_irrefl, if_false]
    exact Ev.now _
  | p :: B, p' :: B', A, A', h, hb, hl => by
    have hl2 : A.length + (B.length + 1) ≤ 1000000 := by rw [List.length_append, List.length_cons] at hl; exact hl
    have hb2 : B.length = B'.length := by simpa using hb
    have h1 : ((A.length : Nat) : Int) < ((A ++ p :: B).length : Int) := by rw [List.length_append, List.length_cons]; omega
    have h2 : ((A.length : Nat) : Int) < ((A' ++ p' :: B').length : Int) := by rw [List.length_append, List.length_cons, h]; omega
    have h0 : (0 : Int) ≤ (A.length : Int) := by omega
    have hw := wr1 A.length (by omega)
    have r2 : rd_T29 (A' ++ p' :: B') (A.length : Int) = p' := by rw [h]; exact rdR_app A' B' p'
    refine Ev.step (fun k => by rw [api_Rule_51.l0]) ?_
    simp only [h1, h2, h0, if_true, rdR_app, r2, hw]
    have hne := show (!(p.f0 == p'.f0) || (!(p.f1 == p'.f1) || (!(p.f2 == p'.f2) || (!(p.f3 == p'.f3) || ((!(p.f4.f0 == p'.f4.f0) || (!(p.f4.f1 == p'.f4.f1))) || (!(p.f5 == p'.f5))))))) = neRu p p' from rfl
    rw [hne, sameL]
    unfold eqRu
    cases neRu p p' with
    | true => exact Ev.now _
    | false =>
      simp only [Bool.false_eq_true, if_false, Bool.not_false, Bool.true_and]
      have ih := eqR_l0 B B' (A ++ [p]) (A' ++ [p']) (by simp [h]) hb2 (by rw [List.append_assoc]; exact hl)
      rw [show (A ++ [p]) ++ B = A ++ p :: B from by simp, show (A' ++ [p']) ++ B' = A' ++ p' :: B' from by simp, show (A ++ [p]).length = A.length + 1 from by simp] at ih
      exact ih
  | [], _ :: _, _, _, _, hb, _ => by simp at hb
  | _ :: _, [], _, _, _, hb, _ => by simp at hb
theorem eqR_f (l m : List Ru) (hl : l.length ≤ 1000000) : Ev (fun k => api_Rule_51.f k l m) (sameL eqRu l m) := by
  unfold api_Rule_51.f
  by_cases h : l.length = m.length
  · have h' : (l.length : Int) = (m.length : Int) := by omega
    simp only [if_pos h']
    exact eqR_l0 l m [] [] rfl h (by simpa using hl)
  · have h' : ¬ (l.length : Int) = (m.length : Int) := by omega
    simp only [if_neg h', sameL_len l m h]
    exact Ev.now _
theorem refI_l0 : ∀ (B B' A A' : List Int), A.length = A'.length → B.length = B'.length → (A ++ B).length ≤ 1000000 →
    Ev (fun k => waystoneref06_Ints.l0 k (A ++ B) (A' ++ B') (A.length : Int)) (sameL eqI B B')
  | [], [], A, A', h, _, hl => by
    refine Ev.step (fun k => by rw [waystoneref06_Ints.l0]) ?_
    simp only [List.append_nil, Int.lt_irrefl, if_false]
    exact Ev.now _
  | p :: B, p' :: B', A, A', h, hb, hl => by
    have hl2 : A.length + (B.length + 1) ≤ 1000000 := by rw [List.length_append, List.length_cons] at hl; exact hl
    have hb2 : B.length = B'.length := by simpa using hb
    have h1 : ((A.length : Nat) : Int) < ((A ++ p :: B).length : Int) := by rw [List.length_append, List.length_cons]; omega
    have h2 : ((A.length : Nat) : Int) < ((A' ++ p' :: B').length : Int) := by rw [List.length_append, List.length_cons, h]; omega
    have h0 : (0 : Int) ≤ (A.length : Int) := by omega
    have hw := wr1 A.length (by omega)
    have r2 : rd (A' ++ p' :: B') (A.length : Int) = p' := by rw [h]; exact rdI_app A' B' p'
    refine Ev.step (fun k => by rw [waystoneref06_Ints.l0]) ?_
    simp only [h1, h2, h0, if_true, rdI_app, r2, hw]
    by_cases c1 : p = p'
    · subst c1
      simp only [if_true]
      have ih := refI_l0 B B' (A ++ [p]) (A' ++ [p]) (by simp [h]) hb2 (by rw [List.append_assoc]; exact hl)
      rw [show (A ++ [p]) ++ B = A ++ p :: B from by simp, show (A' ++ [p]) ++ B' = A' ++ p :: B' from by simp, show (A ++ [p]).length = A.length + 1 from by simp] at ih
      refine evCast ih ?_
      rw [sameL, show eqI p p = true from by simp [eqI], Bool.true_and]
    · simp only [c1, if_false]
      exact evCast (Ev.now _) (by rw [sameL, show eqI p p' = false from by simp [eqI, c1], Bool.false_and])
  | [], _ :: _, _, _, _, hb, _ => by simp at hb
  | _ :: _, [], _, _, _, hb, _ => by simp at hb
theorem refI_f (l m : List Int) (hl : l.length ≤ 1000000) : Ev (fun k => waystoneref06_Ints.f k l m) (sameL eqI l m) := by
  unfold waystoneref06_Ints.f
  by_cases h : l.length = m.length
  · have h' : (l.length : Int) = (m.length : Int) := by omega
    simp only [if_pos h']
    exact refI_l0 l m [] [] rfl h (by simpa using hl)
  · have h' : ¬ (l.length : Int) = (m.length : Int) := by omega
    simp only [if_neg h', sameL_len l m h]
    exact Ev.now _
theorem refR_l0 : ∀ (B B' A A' : List Ru), A.length = A'.length → B.length = B'.length → (A ++ B).length ≤ 1000000 →
    Ev (fun k => waystoneref07_Same.l0 k (A ++ B) (A' ++ B') (A.length : Int)) (sameL eqRu B B')
  | [], [], A, A', h, _, hl => by
    refine Ev.step (fun k => by rw [waystoneref07_Same.l0]) ?_
    simp only [List.append_nil, Int.lt_irrefl, if_false]
    exact Ev.now _
  | p :: B, p' :: B', A, A', h, hb, hl => by
    have hl2 : A.length + (B.length + 1) ≤ 1000000 := by rw [List.length_append, List.length_cons] at hl; exact hl
    have hb2 : B.length = B'.length := by simpa using hb
    have h1 : ((A.length : Nat) : Int) < ((A ++ p :: B).length : Int) := by rw [List.length_append, List.length_cons]; omega
    have h2 : ((A.length : Nat) : Int) < ((A' ++ p' :: B').length : Int) := by rw [List.length_append, List.length_cons, h]; omega
    have h0 : (0 : Int) ≤ (A.length : Int) := by omega
    have hw := wr1 A.length (by omega)
    have r2 : rd_T29 (A' ++ p' :: B') (A.length : Int) = p' := by rw [h]; exact rdR_app A' B' p'
    refine Ev.step (fun k => by rw [waystoneref07_Same.l0]) ?_
    simp only [h1, h2, h0, if_true, rdR_app, r2, hw]
    have hne := show (!(p.f0 == p'.f0) || (!(p.f1 == p'.f1) || (!(p.f2 == p'.f2) || (!(p.f3 == p'.f3) || ((!(p.f4.f0 == p'.f4.f0) || (!(p.f4.f1 == p'.f4.f1))) || (!(p.f5 == p'.f5))))))) = neRu p p' from rfl
    rw [hne, sameL]
    unfold eqRu
    cases neRu p p' with
    | true => exact Ev.now _
    | false =>
      simp only [Bool.false_eq_true, if_false, Bool.not_false, Bool.true_and]
      have ih := refR_l0 B B' (A ++ [p]) (A' ++ [p']) (by simp [h]) hb2 (by rw [List.append_assoc]; exact hl)
      rw [show (A ++ [p]) ++ B = A ++ p :: B from by simp, show (A' ++ [p']) ++ B' = A' ++ p' :: B' from by simp, show (A ++ [p]).length = A.length + 1 from by simp] at ih
      exact ih
  | [], _ :: _, _, _, _, hb, _ => by simp at hb
  | _ :: _, [], _, _, _, hb, _ => by simp at hb
theorem refR_f (l m : List Ru) (hl : l.length ≤ 1000000) : Ev (fun k => waystoneref07_Same.f k l m) (sameL eqRu l m) := by
  unfold waystoneref07_Same.f
  by_cases h : l.length = m.length
  · have h' : (l.length : Int) = (m.length : Int) := by omega
    simp only [if_pos h']
    exact refR_l0 l m [] [] rfl h (by simpa using hl)
  · have h' : ¬ (l.length : Int) = (m.length : Int) := by omega
    simp only [if_neg h', sameL_len l m h]
    exact Ev.now _
def sameB (r s : Rs) : Bool :=
  sameL eqI r.ids s.ids && (sameL eqRu r.rules s.rules && ((sameL eqI r.dv s.dv && ((r.ft == s.ft) && (r.od == s.od && r.op == s.op))) && ((r.h == s.h) && (r.fr == s.fr && r.ad == s.ad)) && ((r.e == s.e) && (r.n == s.n))))
theorem sameB_iff (r s : Rs) : sameB r s = true ↔ r = s := by
  obtain ⟨a1, a2, a3, a4, a5, a6, a7, a8, a9, a10, a11⟩ := r
  obtain ⟨b1, b2, b3, b4, b5, b6, b7, b8, b9, b10, b11⟩ := s
  unfold sameB
  simp only [Bool.and_eq_true, sameL_iff eqI_iff, sameL_iff eqRu_iff, beq_iff_eq]
  constructor
  · rintro ⟨rfl, rfl, ⟨⟨rfl, rfl, rfl, rfl⟩, rfl, rfl, rfl⟩, rfl, rfl⟩; rfl
  · intro h
    injection h with h1 h2 h3 h4 h5 h6 h7 h8 h9 h10 h11
    exact ⟨h3, h4, ⟨⟨h8, h9, h10, h11⟩, h5, h6, h7⟩, h1, h2⟩
theorem lit09 (b : Bool) (x y p q u v : Int) : (if b = true then (if x = y then (some (p == q && (u == v))) else (some false)) else (some false)) = some (b && ((x == y) && (p == q && u == v))) := by
  cases b <;> by_cases h : x = y <;> simp [h]
theorem lit12 (b h g : Bool) (p q u v : Int) : (if b = true then (if (h == g) = true then (if p = q then (some (u == v)) else (some false)) else (some false)) else (some false)) = some (b && ((h == g) && (p == q && u == v))) := by
  cases b <;> cases h <;> cases g <;> by_cases h : p = q <;> simp [h]
theorem lit17 (a b c : Bool) (p q u v : Int) : (if a = true then (if b = true then (if c = true then (if p = q then (some (u == v)) else (some false)) else (some false)) else (some false)) else (some false)) = some (a && (b && (c && ((p == q) && (u == v))))) := by
  cases a <;> cases b <;> cases c <;> by_cases h : p = q <;> simp [h]
theorem refsame_f (r s : Rs) (h1 : r.ids.length ≤ 1000000) (h2 : r.rules.length ≤ 1000000) (h3 : r.dv.length ≤ 1000000) :
    Ev (fun k => waystoneref17_Same.f k r.e r.n r.ids r.rules r.h r.fr r.ad r.dv r.ft r.od r.op s.e s.n s.ids s.rules s.h s.fr s.ad s.dv s.ft s.od s.op) (sameB r s) := by
  unfold waystoneref17_Same.f
  refine Ev.bind (refI_f r.ids s.ids h1) ?_
  refine Ev.bind (refR_f r.rules s.rules h2) ?_
  refine Ev.bind (a := (sameL eqI r.dv s.dv && ((r.ft == s.ft) && (r.od == s.od && r.op == s.op))) && ((r.h == s.h) && (r.fr == s.fr && r.ad == s.ad))) ?_ ?_
  · unfold waystoneref12_Same.f
    refine Ev.bind (a := sameL eqI r.dv s.dv && ((r.ft == s.ft) && (r.od == s.od && r.op == s.op))) ?_ ?_
    · unfold waystoneref09_Same.f
      refine Ev.bind (refI_f r.dv s.dv h3) ?_
      exact Ev.congr (fun _ => lit09 _ _ _ _ _ _ _) (Ev.now _)
    · exact Ev.congr (fun _ => lit12 _ _ _ _ _ _ _) (Ev.now _)
  · unfold sameB
    exact Ev.congr (fun _ => lit17 _ _ _ _ _ _ _) (Ev.now _)
end Go.Proofs.Ytpaknjmcjblahaa.H
