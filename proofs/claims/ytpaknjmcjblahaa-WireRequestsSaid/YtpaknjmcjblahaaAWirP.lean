/- Requests and responses as bytes: there and back, plain. -/
import Derived.Test.YtpaknjmcjblahaaAWir9
import Derived.Test.YtpaknjmcjblahaaANumB2
import Derived.Test.YtpaknjmcjblahaaAWirQ
namespace Go.Proofs.Ytpaknjmcjblahaa.H
open Go.RowKit Go.Proofs.Ytpaknjmcjblahaa.P Go.Proofs.YtpaknjmcjblahaaW.PrintWords Go.Proofs.YtpaknjmcjblahaaW.PrintLast Go.Proofs.YtpaknjmcjblahaaW.PrintMore
set_option linter.unusedVariables false
set_option linter.unusedSimpArgs false
set_option maxRecDepth 20000
def putN (n : Int) : List Int := put n.toNat
def putT (s : ByteArray) : List Int := put s.size ++ bytesOf s
def putL (l : List Int) : List Int := (l.map putN).flatten
def putRu (r : Ru) : List Int := putL (numsR r)
def inB (most n : Int) : Prop := 0 ≤ n ∧ n ≤ most
theorem numM_put {most n : Int} (rest : List Int) (b : Bool) (h : inB most n) (h2 : most ≤ 4294967295) : numM most ⟨putN n ++ rest, b⟩ = (n, ⟨rest, b⟩) := by
  obtain ⟨h0, h1⟩ := h
  have hn := nextS_put n.toNat (by omega) rest
  unfold numM putN
  rw [hn]
  simp only [Int.toNat_of_nonneg h0]
  rw [if_pos ⟨put_pos _, h1⟩, List.drop_left]
theorem textM_put (s : ByteArray) (rest : List Int) (b : Bool) (h : s.size ≤ 40) : textM 40 ⟨putT s ++ rest, b⟩ = (s, ⟨rest, b⟩) := by
  have hn := nextS_put s.size (by omega) (bytesOf s ++ rest)
  unfold textM putT
  rw [List.append_assoc, hn]
  dsimp only
  have e1 : ((put s.size ++ (bytesOf s ++ rest)).take ((put s.size).length + (s.size : Int).toNat)).drop (put s.size).length = bytesOf s := by
    rw [List.drop_take, List.drop_left, Nat.add_sub_cancel_left, Int.toNat_natCast, List.take_append_of_le_length (by rw [bytesOf_len]; exact Nat.le_refl _), List.take_of_length_le (by rw [bytesOf_len]; exact Nat.le_refl _)]
  have e2 : (put s.size ++ (bytesOf s ++ rest)).drop ((put s.size).length + (s.size : Int).toNat) = rest := by
    rw [← List.drop_drop, List.drop_left, Int.toNat_natCast, ← bytesOf_len, List.drop_left]
  rw [if_pos ⟨put_pos _, by omega, by rw [List.length_append, List.length_append, bytesOf_len]; omega⟩, e1, e2, str_bytesOf]
def okW (r : Ru) : Prop := inB wideW r.f0 ∧ inB wideW r.f1 ∧ inB wideW r.f2 ∧ inB wideW r.f3 ∧ inB wideW r.f4.f0 ∧ inB wideW r.f4.f1 ∧ inB wideW r.f5
theorem wideLe : wideW ≤ 4294967295 := by decide
theorem putRu_eq (r : Ru) (rest : List Int) : putRu r ++ rest = putN r.f0 ++ (putN r.f1 ++ (putN r.f2 ++ (putN r.f3 ++ (putN r.f4.f0 ++ (putN r.f4.f1 ++ (putN r.f5 ++ rest)))))) := by
  simp [putRu, putL, numsR, List.append_assoc]
theorem ruleM_put {r : Ru} (rest : List Int) (b : Bool) (h : okW r) : ruleM ⟨putRu r ++ rest, b⟩ = (r, ⟨rest, b⟩) := by
  obtain ⟨h0, h1, h2, h3, h4, h5, h6⟩ := h
  unfold ruleM
  rw [putRu_eq]
  simp only [numM_put _ _ h0 wideLe, numM_put _ _ h1 wideLe, numM_put _ _ h2 wideLe, numM_put _ _ h3 wideLe, numM_put _ _ h4 wideLe, numM_put _ _ h5 wideLe, numM_put _ _ h6 wideLe]
def encL (r : Rq) : List Int := putN r.k ++ (putN r.s ++
  (if partK r.k = 1 then putT r.nm else if partK r.k = 2 then putN r.ek ++ putRu r.ru else
   if partK r.k = 3 then putN r.qk ++ (putN r.qa ++ (putN r.qb ++ (putN r.qw ++ (putN r.qf ++ (putN r.qt ++ putT r.qo))))) else []))
theorem allIn_iff (most : Int) (l : List Int) : allIn most l = true ↔ ∀ x ∈ l, inB most x := by
  unfold allIn outB inB
  rw [Bool.not_eq_true', List.any_eq_false]
  constructor
  · intro h x hx
    have := h x hx
    simp only [Bool.or_eq_true, decide_eq_true_eq] at this
    omega
  · intro h x hx
    have := h x hx
    simp only [Bool.or_eq_true, decide_eq_true_eq]
    omega
theorem emptyS_iff (s : ByteArray) : emptyS s = true ↔ s = ⟨#[]⟩ := by
  unfold emptyS
  constructor
  · intro h
    obtain ⟨⟨d⟩⟩ := s
    simp at h
    rw [h]
  · rintro rfl; simp
structure Form (r : Rq) : Prop where
  k : inB 9 r.k
  s : inB 255 r.s
  nm : r.nm.size ≤ 40
  ek : inB 255 r.ek
  ru : okW r.ru
  qk : inB 255 r.qk
  qa : inB 255 r.qa
  qb : inB 255 r.qb
  qw : inB 255 r.qw
  qo : r.qo.size ≤ 40
  op : ¬ (r.k = 0 ∧ r.s ≠ 0)
  z1 : partK r.k ≠ 1 → r.nm = ⟨#[]⟩
  z2 : partK r.k ≠ 2 → r.ek = 0 ∧ r.ru = zRu
  z3 : partK r.k ≠ 3 → r.qk = 0 ∧ r.qa = 0 ∧ r.qb = 0 ∧ r.qw = 0 ∧ r.qf = 0 ∧ r.qt = 0 ∧ r.qo = ⟨#[]⟩
theorem form_of {r : Rq} (h : rightQ r = true) : Form r := by
  unfold rightQ at h
  simp only [Bool.and_eq_true, Bool.or_eq_true, Bool.not_eq_true', decide_eq_false_iff_not, beq_iff_eq, allIn_iff, emptyS_iff] at h
  obtain ⟨⟨⟨⟨⟨⟨⟨⟨h1, h2⟩, h3⟩, h4⟩, h5⟩, h6⟩, h7⟩, h8⟩, h9⟩ := h
  refine ⟨h1 _ (by simp), h2 _ (by simp), by omega, h2 _ (by simp), ⟨h3 _ (by simp [numsR]), h3 _ (by simp [numsR]), h3 _ (by simp [numsR]), h3 _ (by simp [numsR]), h3 _ (by simp [numsR]), h3 _ (by simp [numsR]), h3 _ (by simp [numsR])⟩, h2 _ (by simp), h2 _ (by simp), h2 _ (by simp), h2 _ (by simp), by omega, ?_, ?_, ?_, ?_⟩
  · rintro ⟨c1, c2⟩
    simp [c1, c2] at h6
  · intro c; rcases h7 with h | h
    · exact absurd h c
    · exact h
  · intro c; rcases h8 with h | h
    · exact absurd h c
    · unfold edZ at h
      simp only [Bool.and_eq_true, beq_iff_eq] at h
      refine ⟨h.1, ?_⟩
      obtain ⟨k, s, nm, ek, ⟨a, b, c, d, ⟨e, f⟩, g⟩, _⟩ := r
      dsimp only at h
      unfold zRu
      obtain ⟨_, rfl, rfl, rfl, rfl, ⟨rfl, rfl⟩, rfl⟩ := h
      rfl
  · intro c; rcases h9 with h | h
    · exact absurd h c
    · unfold quZ at h
      simp only [Bool.and_eq_true, beq_iff_eq, emptyS_iff] at h
      exact ⟨h.1, h.2.1, h.2.2.1, h.2.2.2.1, h.2.2.2.2.1.1, h.2.2.2.2.1.2, h.2.2.2.2.2⟩
theorem decM_enc {r : Rq} (h : rightQ r = true) (hu : inB wideW r.qf ∧ inB wideW r.qt) (tail : List Int) : decM (encL r ++ tail) = (r, ⟨tail, false⟩) := by
  have F := form_of h
  clear h
  obtain ⟨k, s, nm, ek, ru, qk, qa, qb, qw, qf, qt, qo⟩ := r
  obtain ⟨f1, f2, f3, f4, f5, f6, f7, f8, f9, f10, f11, f12, f13, f14⟩ := F
  dsimp only at f1 f2 f3 f4 f5 f6 f7 f8 f9 f10 f11 f12 f13 f14 hu
  unfold decM encL
  dsimp only
  rw [List.append_assoc, List.append_assoc]
  simp only [numM_put _ _ f1 (by decide : (9 : Int) ≤ 4294967295), numM_put _ _ f2 (by decide : (255 : Int) ≤ 4294967295)]
  by_cases c1 : partK k = 1
  · obtain ⟨rfl, rfl⟩ := f13 (by omega)
    obtain ⟨rfl, rfl, rfl, rfl, rfl, rfl, rfl⟩ := f14 (by omega)
    simp only [c1, if_true, textM_put _ _ _ f3]
  · obtain rfl := f12 c1
    rw [if_neg c1, if_neg c1]
    by_cases c2 : partK k = 2
    · obtain ⟨rfl, rfl, rfl, rfl, rfl, rfl, rfl⟩ := f14 (by omega)
      simp only [c2, if_true, List.append_assoc, numM_put _ _ f4 (by decide : (255 : Int) ≤ 4294967295), ruleM_put _ _ f5]
    · obtain ⟨rfl, rfl⟩ := f13 c2
      rw [if_neg c2, if_neg c2]
      by_cases c3 : partK k = 3
      · simp only [c3, if_true, List.append_assoc, numM_put _ _ f6 (by decide : (255 : Int) ≤ 4294967295), numM_put _ _ f7 (by decide : (255 : Int) ≤ 4294967295), numM_put _ _ f8 (by decide : (255 : Int) ≤ 4294967295), numM_put _ _ f9 (by decide : (255 : Int) ≤ 4294967295), numM_put _ _ hu.1 wideLe, numM_put _ _ hu.2 wideLe, textM_put _ _ _ f10]
      · obtain ⟨rfl, rfl, rfl, rfl, rfl, rfl, rfl⟩ := f14 c3
        rw [if_neg c3, if_neg c3, List.nil_append]
def b01 (b : Bool) : Int := if b then 1 else 0
def ansL (r : Rs) : List Int := putN r.e ++ (putN r.n ++ (putN r.ids.length ++ (putL r.ids ++ (putN r.rules.length ++ ((r.rules.map putRu).flatten ++ (putN (b01 r.h) ++ (putN r.fr ++ (putN r.ad ++ (putN r.dv.length ++ (putL r.dv ++ (putN r.ft ++ (putN r.od ++ putN r.op))))))))))))
structure FormS (r : Rs) : Prop where
  e : inB 65535 r.e
  n : inB wideW r.n
  ids : ∀ x ∈ r.ids, inB wideW x
  rules : ∀ x ∈ r.rules, okW x
  fr : inB 255 r.fr
  dv : ∀ x ∈ r.dv, inB 255 x
  ft : inB 255 r.ft
  od : inB 255 r.od
  op : inB 255 r.op
  l1 : r.ids.length ≤ 100
  l2 : r.rules.length ≤ 100
  l3 : r.dv.length ≤ 100
end Go.Proofs.Ytpaknjmcjblahaa.H
