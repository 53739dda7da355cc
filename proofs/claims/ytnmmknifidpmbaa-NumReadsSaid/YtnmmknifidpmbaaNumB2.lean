import Derived.Test.YtnmmknifidpmbaaNumB1
import Derived.Deep.RegionHeld3
import Derived.Test.YtnmmknifidpmbaaReg
namespace Go.Proofs.Ytnmmknifidpmbaa.H
open Go.RowKit Go.Proofs.Ytnmmknifidpmbaa.P Go.Proofs.YtnmmknifidpmbaaW.PrintWords Go.Proofs.YtnmmknifidpmbaaW.PrintLast Go.Proofs.YtnmmknifidpmbaaW.PrintMore
set_option linter.unusedVariables false
set_option linter.unusedSimpArgs false

theorem put_pos (n : Nat) : (put n).length ≠ 0 := by rw [put_len]; split <;> omega
theorem number_put (g : Nat) (n m : Int) (rest : List Int) (w : World) (h : RD w g (put n.toNat ++ rest)) (hb : bytes rest) (h0 : 0 ≤ n) (h1 : n < 18446744073709551616) (hm : n ≤ m) :
    Calls Try.prog 15 #[.pointer (some ⟨g, 0, none⟩), .int .u64 m] w fun e w' => e = .returned (.tuple #[.int .u64 n, .int .i64 0]) ∧ ∃ v, w' = w.setCell ⟨g, 0, none⟩ v ∧ RD w' g rest := by
  have hn := nextS_put n.toNat (by omega) rest
  have := number_yes g _ m w h (bytes_append (put_bytes _ (by omega)) hb) (by rw [hn]; exact put_pos _) (by rw [hn]; dsimp only; omega)
  rw [hn] at this
  dsimp only at this
  rw [Int.toNat_of_nonneg h0, List.drop_left] at this
  exact this
theorem str_bytesOf (s : ByteArray) : strOfNums (bytesOf s) = s := by
  have := WideShapes.bytes_inj (a := strOfNums (bytesOf s)) (b := s)
  apply WideShapes.bytes_inj
  have : ∀ l : List UInt8, l.map ((fun n : Int => UInt8.ofNat n.toNat) ∘ fun b : UInt8 => (b.toNat : Int)) = l := fun l => by
    induction l with
    | nil => rfl
    | cons b l ih => simp [ih]
  simp [strOfNums, bytesOf, this]
theorem bytesOf_len (s : ByteArray) : (bytesOf s).length = s.size := by
  unfold bytesOf
  rw [List.length_map]
  rfl
theorem text_back (g : Nat) (s : ByteArray) (rest : List Int) (w : World) (h : RD w g (put s.size ++ bytesOf s ++ rest)) (hb : bytes rest) (hs : s.size ≤ 400) :
    Calls Try.prog 17 #[.pointer (some ⟨g, 0, none⟩), .int .i64 s.size] w fun e w' => e = .returned (.tuple #[.string s, .int .i64 0]) ∧ ∃ v, w' = w.setCell ⟨g, 0, none⟩ v ∧ RD w' g rest := by
  rw [List.append_assoc] at h
  have hn := nextS_put s.size (by omega) (bytesOf s ++ rest)
  have := text_yes g _ s.size w h (bytes_append (put_bytes _ (by omega)) (bytes_append (bytesOf_bytes s) hb)) (by omega) (by rw [hn]; dsimp only; omega) (by rw [hn]; exact put_pos _) (by omega) (by rw [hn]; exact Int.le_refl _)
    (by rw [hn]; dsimp only; rw [List.length_append, List.length_append, bytesOf_len]; omega)
  rw [hn] at this
  dsimp only at this
  have e1 : ((put s.size ++ (bytesOf s ++ rest)).take ((put s.size).length + (s.size : Int).toNat)).drop (put s.size).length = bytesOf s := by
    rw [List.drop_take, List.drop_left, Nat.add_sub_cancel_left, Int.toNat_natCast, List.take_append_of_le_length (by rw [bytesOf_len]; exact Nat.le_refl _), List.take_of_length_le (by rw [bytesOf_len]; exact Nat.le_refl _)]
  have e2 : (put s.size ++ (bytesOf s ++ rest)).drop ((put s.size).length + (s.size : Int).toNat) = rest := by
    rw [← List.drop_drop, List.drop_left, Int.toNat_natCast, ← bytesOf_len, List.drop_left]
  rw [e1, e2, str_bytesOf] at this
  exact this
theorem enc1_len (x : S26) (h1 : x.f2 < 18446744073709551616) : (enc1 x).length ≤ 418 := by
  unfold enc1
  split
  · have := put_length x.f2.toNat (by omega)
    have := put_length x.f4.size (by omega)
    rw [List.length_append, List.length_append, bytesOf_len]
    omega
  · simp
theorem ser_len (l : List S26) (h : ∀ x ∈ l, x.f2 < 18446744073709551616) : (ser l).length ≤ 418 * l.length := by
  induction l with
  | nil => simp [ser]
  | cons x l ih =>
    have := ih fun y hy => h y (List.mem_cons_of_mem _ hy)
    have := enc1_len x (h x (List.mem_cons_self ..))
    rw [ser_cons, List.length_append, List.length_cons]
    omega
theorem ser_bytes (l : List S26) (h : ∀ x ∈ l, x.f2 < 18446744073709551616) : bytes (ser l) := by
  induction l with
  | nil => intro x hx; simp [ser] at hx
  | cons x l ih =>
    rw [ser_cons]
    refine bytes_append ?_ (ih fun y hy => h y (List.mem_cons_of_mem _ hy))
    have := h x (List.mem_cons_self ..)
    unfold enc1
    split
    · exact bytes_append (bytes_append (put_bytes _ (by omega)) (put_bytes _ (by omega))) (bytesOf_bytes _)
    · intro y hy; cases hy
end Go.Proofs.Ytnmmknifidpmbaa.H
