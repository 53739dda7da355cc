import Derived.Test.YtnmmknifidpmbaaNumR2
namespace Go.Proofs.Ytnmmknifidpmbaa.H
open Go.RowKit Go.Proofs.Ytnmmknifidpmbaa.P Go.Proofs.YtnmmknifidpmbaaW.PrintWords Go.Proofs.YtnmmknifidpmbaaW.PrintLast Go.Proofs.YtnmmknifidpmbaaW.PrintMore
set_option linter.unusedVariables false
set_option linter.unusedSimpArgs false

/-- What is read, the error, and where one is then. -/
def outN (b : List Int) (p : Nat) (m : Int) : Int × Int × Nat :=
  if (nextS (b.drop p)).2 ≠ 0 ∧ (nextS (b.drop p)).1 ≤ m then ((nextS (b.drop p)).1, 0, p + (nextS (b.drop p)).2) else (0, 11, p)
def outT (b : List Int) (p : Nat) (m : Int) : ByteArray × Int × Nat :=
  if (nextS (b.drop p)).2 ≠ 0 ∧ 0 ≤ m ∧ (nextS (b.drop p)).1 ≤ m ∧ (nextS (b.drop p)).1 ≤ ((b.drop p).length : Int) - (nextS (b.drop p)).2 then
    (strOfNums (((b.drop p).take ((nextS (b.drop p)).2 + (nextS (b.drop p)).1.toNat)).drop (nextS (b.drop p)).2), 0, p + ((nextS (b.drop p)).2 + (nextS (b.drop p)).1.toNat)) else (⟨#[]⟩, 11, p)

theorem grown_refl (w : World) (r : Option Nat) : w.grownBy w r := ⟨rfl, rfl, rfl, Nat.le_refl _, fun _ _ _ => rfl⟩
theorem grown_cell (w : World) (g j : Nat) (v : Value) : w.grownBy (w.setCell ⟨g, j, none⟩ v) (some g) := grown_put (grown_refl w (some g)) j v
theorem Below.grownBy {B g : Nat} {w w1 w2 : World} (h : Below B w w1) (hg : w1.grownBy w2 (some g)) (hB : B ≤ w1.heap.size) (hg' : B ≤ g) : Below B w w2 := h.grown hg hB (fun k hk => by cases hk; exact hg')

theorem number_both (g : Nat) (b : List Int) (p : Nat) (m : Int) (w : World) (h : RD w g (b.drop p)) (hb : bytes b) :
    Calls Try.prog 15 #[.pointer (some ⟨g, 0, none⟩), .int .u64 m] w fun e w' => e = .returned (.tuple #[.int .u64 (outN b p m).1, .int .i64 (outN b p m).2.1]) ∧ w.grownBy w' (some g) ∧ RD w' g (b.drop (outN b p m).2.2) := by
  by_cases hc : (nextS (b.drop p)).2 ≠ 0 ∧ (nextS (b.drop p)).1 ≤ m
  · refine (number_yes g _ m w h (bytes_drop hb p) hc.1 hc.2).mono ?_
    rintro e w' ⟨rfl, v, rfl, hr⟩
    unfold outN
    rw [if_pos hc]
    exact ⟨rfl, grown_cell w g 0 v, by rw [List.drop_drop] at hr; exact hr⟩
  · refine (number_no g _ m w h (bytes_drop hb p) (by omega)).mono ?_
    rintro e w' ⟨rfl, rfl⟩
    unfold outN
    rw [if_neg hc]
    exact ⟨rfl, grown_refl _ _, h⟩
theorem text_both (g : Nat) (b : List Int) (p : Nat) (m : Int) (w : World) (h : RD w g (b.drop p)) (hb : bytes b) (hm : m ≤ 9223372036854775807) :
    Calls Try.prog 17 #[.pointer (some ⟨g, 0, none⟩), .int .i64 m] w fun e w' => e = .returned (.tuple #[.string (outT b p m).1, .int .i64 (outT b p m).2.1]) ∧ w.grownBy w' (some g) ∧ RD w' g (b.drop (outT b p m).2.2) := by
  have hn : 0 ≤ (nextS (b.drop p)).1 ∧ (nextS (b.drop p)).1 < 18446744073709551616 := by
    by_cases h0 : (nextS (b.drop p)).2 = 0
    · have : ∀ l, (nextS l).2 = 0 → (nextS l).1 = 0 := fun l => by
        unfold nextS
        split
        · simp
        · split
          · simp
          · split
            · simp
            · split
              · simp
              · simp
      rw [this _ h0]
      omega
    · exact (put_nextS _ (bytes_drop hb p) h0).2
  by_cases hc : (nextS (b.drop p)).2 ≠ 0 ∧ 0 ≤ m ∧ (nextS (b.drop p)).1 ≤ m ∧ (nextS (b.drop p)).1 ≤ ((b.drop p).length : Int) - (nextS (b.drop p)).2
  · refine (text_yes g _ m w h (bytes_drop hb p) hm hn.1 hc.1 hc.2.1 hc.2.2.1 hc.2.2.2).mono ?_
    rintro e w' ⟨rfl, v, rfl, hr⟩
    unfold outT
    rw [if_pos hc]
    exact ⟨rfl, grown_cell w g 0 v, by rw [List.drop_drop] at hr; exact hr⟩
  · refine (text_no g _ m w h (bytes_drop hb p) hm hn.1 hn.2 (by omega)).mono ?_
    rintro e w' ⟨rfl, rfl⟩
    unfold outT
    rw [if_neg hc]
    exact ⟨rfl, grown_refl _ _, h⟩
theorem ref_number_both (g : Nat) (B : Option Addr) (d : Nat) (b : List Int) (p : Nat) (bad : Bool) (m : Int) (w : World) (h : RM w g B d b p bad) (hb : bytes b) (hm0 : 0 ≤ m) :
    Calls Try.prog 16 #[.pointer (some ⟨g, 0, none⟩), .int .u64 m] w fun e w' => e = .returned (.tuple #[.int .u64 (outN b p m).1, .int .i64 (outN b p m).2.1]) ∧ w.grownBy w' (some g) ∧ ∃ bad', RM w' g B d b (outN b p m).2.2 bad' := by
  refine (refnumber_any g B d b p bad m w h hb hm0).mono ?_
  rintro e w' ⟨hg, ⟨h1, h2, rfl, hr⟩ | ⟨h1, rfl, hr⟩⟩
  · unfold outN
    rw [if_pos ⟨h1, h2⟩]
    exact ⟨rfl, hg, bad, hr⟩
  · unfold outN
    rw [if_neg (by omega)]
    exact ⟨rfl, hg, true, hr⟩
theorem ref_text_both (g : Nat) (B : Option Addr) (d : Nat) (b : List Int) (p : Nat) (bad : Bool) (m : Int) (w : World) (h : RM w g B d b p bad) (hb : bytes b) (hm0 : -9223372036854775808 ≤ m) (hm1 : m ≤ 9223372036854775807) :
    Calls Try.prog 18 #[.pointer (some ⟨g, 0, none⟩), .int .i64 m] w fun e w' => e = .returned (.tuple #[.string (outT b p m).1, .int .i64 (outT b p m).2.1]) ∧ w.grownBy w' (some g) ∧ ∃ bad', RM w' g B d b (outT b p m).2.2 bad' := by
  refine (reftext_rd g B d b p bad m w h hb hm0 hm1).mono ?_
  rintro e w' ⟨hg, ⟨h1, h2, h3, h4, rfl, hr⟩ | ⟨h1, rfl, hr⟩⟩
  · unfold outT
    rw [if_pos ⟨h1, h2, h3, h4⟩]
    exact ⟨rfl, hg, bad, hr⟩
  · unfold outT
    rw [if_neg (by omega)]
    exact ⟨rfl, hg, true, hr⟩
theorem C_grown {w w' : World} {h : Nat} {A : Option Addr} {n : Nat} {l : List Int} (hC : Kd.C (Kd.int .u8) w A n l) (hg : w.grownBy w' (some h)) (hne : ∀ ad, A = some ad → 0 < n → ad.block ≠ h) : Kd.C (Kd.int .u8) w' A n l := by
  refine ⟨hC.1, hC.2.1, fun hn => ?_⟩
  obtain ⟨ad, e, hc⟩ := hC.2.2 hn
  refine ⟨ad, e, fun j p hj => ?_⟩
  obtain ⟨c, h1, h2, h3⟩ := hc j p hj
  refine ⟨c, h1, h2, fun i u hu => ?_⟩
  have h4 := h3 i u hu
  rw [← h4]
  have hb : (ad.add (j * (Kd.int .u8).sz + i)).block = ad.block := by unfold Addr.add; split <;> rfl
  exact World.cell?_of_block (w := w) (hg.block _ (World.block_lt_of_cell? w _ h4) (by rw [hb]; intro h5; exact hne ad e hn (by cases h5; rfl)))
theorem RD.grown {w w' : World} {g h d i : Nat} {l b : List Int} {bad : Bool} {B : Option Addr} (hr : RD w g l) (hg : w.grownBy w' (some h)) (hne : g ≠ h) (hm : w.heap[h]? = some (.cells #[.slice B b.length d, .int .i64 i, .bool bad] 37 (0, 0))) : RD w' g l := by
  obtain ⟨A, c, h1, h2, h3⟩ := hr
  exact ⟨A, c, blk_grown h1 hg (by simpa using hne), h2, C_grown h3 hg (RM.apart hm h3)⟩
theorem RM.other {w w' : World} {g h d i : Nat} {l b : List Int} {bad : Bool} {B : Option Addr} (hr : RM w h B d b i bad) (hg : w.grownBy w' (some g)) (hne : h ≠ g) (hd : RD w g l) : RM w' h B d b i bad := by
  obtain ⟨A, c, h1, h2, h3⟩ := hd
  exact ⟨blk_grown hr.1 hg (by simpa using hne), hr.2.1, hr.2.2.1, C_grown hr.2.2.2 hg (RD.apart h1 hr.2.2.2)⟩
end Go.Proofs.Ytnmmknifidpmbaa.H
