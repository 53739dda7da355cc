/- Px5. -/
import Derived.Test.YtpaknjmcjblahaaENum3
import Derived.Test.YtpaknjmcjblahaaEPx3
import Derived.Test.YtpaknjmcjblahaaENum7
namespace Go.Proofs.Ytpaknjmcjblahaa.P
open Go.RowKit Go.Proofs.YtpaknjmcjblahaaW.PrintWords Go.Proofs.YtpaknjmcjblahaaW.PrintLast Go.Proofs.YtpaknjmcjblahaaW.PrintMore
set_option linter.unusedVariables false
set_option linter.unusedSimpArgs false
mutual
def waystoneref17_Formed.j0 : Nat → Bool → Int → Int → List Int → List (S29) → Bool → Int → Int → List Int → Int → Int → Int → Option (Bool)
  | 0, _, _, _, _, _, _, _, _, _, _, _, _ => none
  | k + 1, x79, x181000, x181001, x181002, x181003, x181004, x181005, x181006, x181007, x181008, x181009, x181010 => if x79 = true then (some false) else (waystoneref17_Formed.l0 k 0 x181000 x181001 x181002 x181003 x181004 x181005 x181006 x181007 x181008 x181009 x181010)
def waystoneref17_Formed.l0 : Nat → Int → Int → Int → List Int → List (S29) → Bool → Int → Int → List Int → Int → Int → Int → Option (Bool)
  | 0, _, _, _, _, _, _, _, _, _, _, _, _ => none
  | k + 1, x9, x181000, x181001, x181002, x181003, x181004, x181005, x181006, x181007, x181008, x181009, x181010 => if x9 < (x181003.length : Int) then (if 0 ≤ x9 then ((waystoneref17_Numbers.f ((rd_T29 x181003 x9).f0) ((rd_T29 x181003 x9).f1) ((rd_T29 x181003 x9).f2) ((rd_T29 x181003 x9).f3) ((rd_T29 x181003 x9).f4.f0) ((rd_T29 x181003 x9).f4.f1) ((rd_T29 x181003 x9).f5)).bind fun t197 => ((waystoneref17_all.f k 4294967295 t197).bind fun t200 => (if t200 = true then (waystoneref17_Formed.l0 k (wrap64 (x9 + 1)) x181000 x181001 x181002 x181003 x181004 x181005 x181006 x181007 x181008 x181009 x181010) else (some false)))) else (none)) else (some true)
end
def waystoneref17_Formed.f (k : Nat) (a0_0 : Int) (a0_1 : Int) (l0_2 : List Int) (l0_3 : List (S29)) (a0_4 : Bool) (a0_5 : Int) (a0_6 : Int) (l0_7 : List Int) (a0_8 : Int) (a0_9 : Int) (a0_10 : Int) : Option (Bool) := (waystoneref17_all.f k 65535 (([a0_0] : List Int))).bind fun t185 => ((waystoneref17_all.f k 4294967295 (([a0_1] : List Int))).bind fun t189 => ((waystoneref17_all.f k 4294967295 l0_2).bind fun t190 => ((waystoneref17_all.f k 255 (([a0_5, a0_8, a0_9, a0_10] : List Int))).bind fun t194 => ((waystoneref17_all.f k 255 l0_7).bind fun t195 => (if t185 = true then (if t189 = true then (if t190 = true then (if t194 = true then (if t195 = true then (if (l0_2.length : Int) > 100 then (waystoneref17_Formed.j0 k true a0_0 a0_1 l0_2 l0_3 a0_4 a0_5 a0_6 l0_7 a0_8 a0_9 a0_10) else (if (l0_3.length : Int) > 100 then (waystoneref17_Formed.j0 k true a0_0 a0_1 l0_2 l0_3 a0_4 a0_5 a0_6 l0_7 a0_8 a0_9 a0_10) else (waystoneref17_Formed.j0 k (decide ((l0_7.length : Int) > 100)) a0_0 a0_1 l0_2 l0_3 a0_4 a0_5 a0_6 l0_7 a0_8 a0_9 a0_10))) else (waystoneref17_Formed.j0 k true a0_0 a0_1 l0_2 l0_3 a0_4 a0_5 a0_6 l0_7 a0_8 a0_9 a0_10)) else (waystoneref17_Formed.j0 k true a0_0 a0_1 l0_2 l0_3 a0_4 a0_5 a0_6 l0_7 a0_8 a0_9 a0_10)) else (waystoneref17_Formed.j0 k true a0_0 a0_1 l0_2 l0_3 a0_4 a0_5 a0_6 l0_7 a0_8 a0_9 a0_10)) else (waystoneref17_Formed.j0 k true a0_0 a0_1 l0_2 l0_3 a0_4 a0_5 a0_6 l0_7 a0_8 a0_9 a0_10)) else (waystoneref17_Formed.j0 k true a0_0 a0_1 l0_2 l0_3 a0_4 a0_5 a0_6 l0_7 a0_8 a0_9 a0_10))))))
set_option maxHeartbeats 8000000 in
set_option maxRecDepth 100000 in
theorem waystoneref17_Formed.calls (k : Nat) (a0_0 : Int) (a0_1 : Int) (A0_2 : Option Addr) (c0_2 : Nat) (l0_2 : List Int) (A0_3 : Option Addr) (c0_3 : Nat) (l0_3 : List (S29)) (a0_4 : Bool) (a0_5 : Int) (a0_6 : Int) (A0_7 : Option Addr) (c0_7 : Nat) (l0_7 : List Int) (a0_8 : Int) (a0_9 : Int) (a0_10 : Int) (r : Bool) (w : World) (hr0_2 : Kd.C (Kd.int .i64) w A0_2 l0_2.length l0_2) (hc0_2 : l0_2.length ≤ c0_2) (hr0_3 : Kd.C k29 w A0_3 l0_3.length l0_3) (hc0_3 : l0_3.length ≤ c0_3) (hr0_7 : Kd.C (Kd.int .i64) w A0_7 l0_7.length l0_7) (hc0_7 : l0_7.length ≤ c0_7) (h : waystoneref17_Formed.f k a0_0 a0_1 l0_2 l0_3 a0_4 a0_5 a0_6 l0_7 a0_8 a0_9 a0_10 = some r) :
    Calls Try.prog 46 #[.agg #[.int .i64 a0_0, .int .i64 a0_1, .slice A0_2 l0_2.length c0_2, .slice A0_3 l0_3.length c0_3, .bool a0_4, .int .i64 a0_5, .int .u32 a0_6, .slice A0_7 l0_7.length c0_7, .int .i64 a0_8, .int .i64 a0_9, .int .i64 a0_10]] w fun e w' => e = .returned (.bool r) ∧ Below w.heap.size w w' := by
  have hu50 := Try.underlying50
  have hu48 := Try.underlying48
  have hu29 := Try.underlying29
  have HR0_2 := Aside0.mk hr0_2
  have HC0_2 := Aside0.mk hc0_2
  clear hr0_2 hc0_2
  have HR0_3 := Aside0.mk hr0_3
  have HC0_3 := Aside0.mk hc0_3
  clear hr0_3 hc0_3
  have HR0_7 := Aside0.mk hr0_7
  have HC0_7 := Aside0.mk hc0_7
  clear hr0_7 hc0_7
  have HB := Aside0.mk (Below.refl w.heap.size w)
  have H : ((waystoneref17_all.f k 65535 (([a0_0] : List Int))).bind fun t185 => ((waystoneref17_all.f k 4294967295 (([a0_1] : List Int))).bind fun t189 => ((waystoneref17_all.f k 4294967295 l0_2).bind fun t190 => ((waystoneref17_all.f k 255 (([a0_5, a0_8, a0_9, a0_10] : List Int))).bind fun t194 => ((waystoneref17_all.f k 255 l0_7).bind fun t195 => (if t185 = true then (if t189 = true then (if t190 = true then (if t194 = true then (if t195 = true then (if (l0_2.length : Int) > 100 then (waystoneref17_Formed.j0 k true a0_0 a0_1 l0_2 l0_3 a0_4 a0_5 a0_6 l0_7 a0_8 a0_9 a0_10) else (if (l0_3.length : Int) > 100 then (waystoneref17_Formed.j0 k true a0_0 a0_1 l0_2 l0_3 a0_4 a0_5 a0_6 l0_7 a0_8 a0_9 a0_10) else (waystoneref17_Formed.j0 k (decide ((l0_7.length : Int) > 100)) a0_0 a0_1 l0_2 l0_3 a0_4 a0_5 a0_6 l0_7 a0_8 a0_9 a0_10))) else (waystoneref17_Formed.j0 k true a0_0 a0_1 l0_2 l0_3 a0_4 a0_5 a0_6 l0_7 a0_8 a0_9 a0_10)) else (waystoneref17_Formed.j0 k true a0_0 a0_1 l0_2 l0_3 a0_4 a0_5 a0_6 l0_7 a0_8 a0_9 a0_10)) else (waystoneref17_Formed.j0 k true a0_0 a0_1 l0_2 l0_3 a0_4 a0_5 a0_6 l0_7 a0_8 a0_9 a0_10)) else (waystoneref17_Formed.j0 k true a0_0 a0_1 l0_2 l0_3 a0_4 a0_5 a0_6 l0_7 a0_8 a0_9 a0_10)) else (waystoneref17_Formed.j0 k true a0_0 a0_1 l0_2 l0_3 a0_4 a0_5 a0_6 l0_7 a0_8 a0_9 a0_10))))))) = some r := h
  clear h
  obtain ⟨y182, hy182⟩ : ∃ y_ : List Int, y_ = (([a0_0] : List Int)) := ⟨_, rfl⟩
  replace H : ((waystoneref17_all.f k 65535 y182).bind fun t185 => ((waystoneref17_all.f k 4294967295 (([a0_1] : List Int))).bind fun t189 => ((waystoneref17_all.f k 4294967295 l0_2).bind fun t190 => ((waystoneref17_all.f k 255 (([a0_5, a0_8, a0_9, a0_10] : List Int))).bind fun t194 => ((waystoneref17_all.f k 255 l0_7).bind fun t195 => (if t185 = true then (if t189 = true then (if t190 = true then (if t194 = true then (if t195 = true then (if (l0_2.length : Int) > 100 then (waystoneref17_Formed.j0 k true a0_0 a0_1 l0_2 l0_3 a0_4 a0_5 a0_6 l0_7 a0_8 a0_9 a0_10) else (if (l0_3.length : Int) > 100 then (waystoneref17_Formed.j0 k true a0_0 a0_1 l0_2 l0_3 a0_4 a0_5 a0_6 l0_7 a0_8 a0_9 a0_10) else (waystoneref17_Formed.j0 k (decide ((l0_7.length : Int) > 100)) a0_0 a0_1 l0_2 l0_3 a0_4 a0_5 a0_6 l0_7 a0_8 a0_9 a0_10))) else (waystoneref17_Formed.j0 k true a0_0 a0_1 l0_2 l0_3 a0_4 a0_5 a0_6 l0_7 a0_8 a0_9 a0_10)) else (waystoneref17_Formed.j0 k true a0_0 a0_1 l0_2 l0_3 a0_4 a0_5 a0_6 l0_7 a0_8 a0_9 a0_10)) else (waystoneref17_Formed.j0 k true a0_0 a0_1 l0_2 l0_3 a0_4 a0_5 a0_6 l0_7 a0_8 a0_9 a0_10)) else (waystoneref17_Formed.j0 k true a0_0 a0_1 l0_2 l0_3 a0_4 a0_5 a0_6 l0_7 a0_8 a0_9 a0_10)) else (waystoneref17_Formed.j0 k true a0_0 a0_1 l0_2 l0_3 a0_4 a0_5 a0_6 l0_7 a0_8 a0_9 a0_10))))))) = some r := by first | (rw [hy182]; with_reducible exact H) | (have H2_ := (Option.bind_some _ _).symm.trans H; rw [hy182]; with_reducible exact H2_) | (have H2_ := (Option.bind_some _ _).symm.trans H; with_reducible exact H2_) | with_reducible exact H | (rw [hy182]; exact H) | exact H
  have Ny182 := Aside0.mk hy182
  clear hy182
  replace H := Option.bind_eq_some_iff.mp H
  obtain ⟨t185, A20, H⟩ := H
  replace H : ((waystoneref17_all.f k 4294967295 (([a0_1] : List Int))).bind fun t189 => ((waystoneref17_all.f k 4294967295 l0_2).bind fun t190 => ((waystoneref17_all.f k 255 (([a0_5, a0_8, a0_9, a0_10] : List Int))).bind fun t194 => ((waystoneref17_all.f k 255 l0_7).bind fun t195 => (if t185 = true then (if t189 = true then (if t190 = true then (if t194 = true then (if t195 = true then (if (l0_2.length : Int) > 100 then (waystoneref17_Formed.j0 k true a0_0 a0_1 l0_2 l0_3 a0_4 a0_5 a0_6 l0_7 a0_8 a0_9 a0_10) else (if (l0_3.length : Int) > 100 then (waystoneref17_Formed.j0 k true a0_0 a0_1 l0_2 l0_3 a0_4 a0_5 a0_6 l0_7 a0_8 a0_9 a0_10) else (waystoneref17_Formed.j0 k (decide ((l0_7.length : Int) > 100)) a0_0 a0_1 l0_2 l0_3 a0_4 a0_5 a0_6 l0_7 a0_8 a0_9 a0_10))) else (waystoneref17_Formed.j0 k true a0_0 a0_1 l0_2 l0_3 a0_4 a0_5 a0_6 l0_7 a0_8 a0_9 a0_10)) else (waystoneref17_Formed.j0 k true a0_0 a0_1 l0_2 l0_3 a0_4 a0_5 a0_6 l0_7 a0_8 a0_9 a0_10)) else (waystoneref17_Formed.j0 k true a0_0 a0_1 l0_2 l0_3 a0_4 a0_5 a0_6 l0_7 a0_8 a0_9 a0_10)) else (waystoneref17_Formed.j0 k true a0_0 a0_1 l0_2 l0_3 a0_4 a0_5 a0_6 l0_7 a0_8 a0_9 a0_10)) else (waystoneref17_Formed.j0 k true a0_0 a0_1 l0_2 l0_3 a0_4 a0_5 a0_6 l0_7 a0_8 a0_9 a0_10)))))) = some r := H
  have A2 := Aside0.mk A20
  clear A20
  obtain ⟨y186, hy186⟩ : ∃ y_ : List Int, y_ = (([a0_1] : List Int)) := ⟨_, rfl⟩
  replace H : ((waystoneref17_all.f k 4294967295 y186).bind fun t189 => ((waystoneref17_all.f k 4294967295 l0_2).bind fun t190 => ((waystoneref17_all.f k 255 (([a0_5, a0_8, a0_9, a0_10] : List Int))).bind fun t194 => ((waystoneref17_all.f k 255 l0_7).bind fun t195 => (if t185 = true then (if t189 = true then (if t190 = true then (if t194 = true then (if t195 = true then (if (l0_2.length : Int) > 100 then (waystoneref17_Formed.j0 k true a0_0 a0_1 l0_2 l0_3 a0_4 a0_5 a0_6 l0_7 a0_8 a0_9 a0_10) else (if (l0_3.length : Int) > 100 then (waystoneref17_Formed.j0 k true a0_0 a0_1 l0_2 l0_3 a0_4 a0_5 a0_6 l0_7 a0_8 a0_9 a0_10) else (waystoneref17_Formed.j0 k (decide ((l0_7.length : Int) > 100)) a0_0 a0_1 l0_2 l0_3 a0_4 a0_5 a0_6 l0_7 a0_8 a0_9 a0_10))) else (waystoneref17_Formed.j0 k true a0_0 a0_1 l0_2 l0_3 a0_4 a0_5 a0_6 l0_7 a0_8 a0_9 a0_10)) else (waystoneref17_Formed.j0 k true a0_0 a0_1 l0_2 l0_3 a0_4 a0_5 a0_6 l0_7 a0_8 a0_9 a0_10)) else (waystoneref17_Formed.j0 k true a0_0 a0_1 l0_2 l0_3 a0_4 a0_5 a0_6 l0_7 a0_8 a0_9 a0_10)) else (waystoneref17_Formed.j0 k true a0_0 a0_1 l0_2 l0_3 a0_4 a0_5 a0_6 l0_7 a0_8 a0_9 a0_10)) else (waystoneref17_Formed.j0 k true a0_0 a0_1 l0_2 l0_3 a0_4 a0_5 a0_6 l0_7 a0_8 a0_9 a0_10)))))) = some r := by first | (rw [hy186]; with_reducible exact H) | (have H2_ := (Option.bind_some _ _).symm.trans H; rw [hy186]; with_reducible exact H2_) | (have H2_ := (Option.bind_some _ _).symm.trans H; with_reducible exact H2_) | with_reducible exact H | (rw [hy186]; exact H) | exact H
  have Ny186 := Aside0.mk hy186
  clear hy186
  replace H := Option.bind_eq_some_iff.mp H
  obtain ⟨t189, A30, H⟩ := H
  replace H : ((waystoneref17_all.f k 4294967295 l0_2).bind fun t190 => ((waystoneref17_all.f k 255 (([a0_5, a0_8, a0_9, a0_10] : List Int))).bind fun t194 => ((waystoneref17_all.f k 255 l0_7).bind fun t195 => (if t185 = true then (if t189 = true then (if t190 = true then (if t194 = true then (if t195 = true then (if (l0_2.length : Int) > 100 then (waystoneref17_Formed.j0 k true a0_0 a0_1 l0_2 l0_3 a0_4 a0_5 a0_6 l0_7 a0_8 a0_9 a0_10) else (if (l0_3.length : Int) > 100 then (waystoneref17_Formed.j0 k true a0_0 a0_1 l0_2 l0_3 a0_4 a0_5 a0_6 l0_7 a0_8 a0_9 a0_10) else (waystoneref17_Formed.j0 k (decide ((l0_7.length : Int) > 100)) a0_0 a0_1 l0_2 l0_3 a0_4 a0_5 a0_6 l0_7 a0_8 a0_9 a0_10))) else (waystoneref17_Formed.j0 k true a0_0 a0_1 l0_2 l0_3 a0_4 a0_5 a0_6 l0_7 a0_8 a0_9 a0_10)) else (waystoneref17_Formed.j0 k true a0_0 a0_1 l0_2 l0_3 a0_4 a0_5 a0_6 l0_7 a0_8 a0_9 a0_10)) else (waystoneref17_Formed.j0 k true a0_0 a0_1 l0_2 l0_3 a0_4 a0_5 a0_6 l0_7 a0_8 a0_9 a0_10)) else (waystoneref17_Formed.j0 k true a0_0 a0_1 l0_2 l0_3 a0_4 a0_5 a0_6 l0_7 a0_8 a0_9 a0_10)) else (waystoneref17_Formed.j0 k true a0_0 a0_1 l0_2 l0_3 a0_4 a0_5 a0_6 l0_7 a0_8 a0_9 a0_10))))) = some r := H
  have A3 := Aside0.mk A30
  clear A30
  replace H := Option.bind_eq_some_iff.mp H
  obtain ⟨t190, A40, H⟩ := H
  replace H : ((waystoneref17_all.f k 255 (([a0_5, a0_8, a0_9, a0_10] : List Int))).bind fun t194 => ((waystoneref17_all.f k 255 l0_7).bind fun t195 => (if t185 = true then (if t189 = true then (if t190 = true then (if t194 = true then (if t195 = true then (if (l0_2.length : Int) > 100 then (waystoneref17_Formed.j0 k true a0_0 a0_1 l0_2 l0_3 a0_4 a0_5 a0_6 l0_7 a0_8 a0_9 a0_10) else (if (l0_3.length : Int) > 100 then (waystoneref17_Formed.j0 k true a0_0 a0_1 l0_2 l0_3 a0_4 a0_5 a0_6 l0_7 a0_8 a0_9 a0_10) else (waystoneref17_Formed.j0 k (decide ((l0_7.length : Int) > 100)) a0_0 a0_1 l0_2 l0_3 a0_4 a0_5 a0_6 l0_7 a0_8 a0_9 a0_10))) else (waystoneref17_Formed.j0 k true a0_0 a0_1 l0_2 l0_3 a0_4 a0_5 a0_6 l0_7 a0_8 a0_9 a0_10)) else (waystoneref17_Formed.j0 k true a0_0 a0_1 l0_2 l0_3 a0_4 a0_5 a0_6 l0_7 a0_8 a0_9 a0_10)) else (waystoneref17_Formed.j0 k true a0_0 a0_1 l0_2 l0_3 a0_4 a0_5 a0_6 l0_7 a0_8 a0_9 a0_10)) else (waystoneref17_Formed.j0 k true a0_0 a0_1 l0_2 l0_3 a0_4 a0_5 a0_6 l0_7 a0_8 a0_9 a0_10)) else (waystoneref17_Formed.j0 k true a0_0 a0_1 l0_2 l0_3 a0_4 a0_5 a0_6 l0_7 a0_8 a0_9 a0_10)))) = some r := H
  have A4 := Aside0.mk A40
  clear A40
  obtain ⟨y191, hy191⟩ : ∃ y_ : List Int, y_ = (([a0_5, a0_8, a0_9, a0_10] : List Int)) := ⟨_, rfl⟩
  replace H : ((waystoneref17_all.f k 255 y191).bind fun t194 => ((waystoneref17_all.f k 255 l0_7).bind fun t195 => (if t185 = true then (if t189 = true then (if t190 = true then (if t194 = true then (if t195 = true then (if (l0_2.length : Int) > 100 then (waystoneref17_Formed.j0 k true a0_0 a0_1 l0_2 l0_3 a0_4 a0_5 a0_6 l0_7 a0_8 a0_9 a0_10) else (if (l0_3.length : Int) > 100 then (waystoneref17_Formed.j0 k true a0_0 a0_1 l0_2 l0_3 a0_4 a0_5 a0_6 l0_7 a0_8 a0_9 a0_10) else (waystoneref17_Formed.j0 k (decide ((l0_7.length : Int) > 100)) a0_0 a0_1 l0_2 l0_3 a0_4 a0_5 a0_6 l0_7 a0_8 a0_9 a0_10))) else (waystoneref17_Formed.j0 k true a0_0 a0_1 l0_2 l0_3 a0_4 a0_5 a0_6 l0_7 a0_8 a0_9 a0_10)) else (waystoneref17_Formed.j0 k true a0_0 a0_1 l0_2 l0_3 a0_4 a0_5 a0_6 l0_7 a0_8 a0_9 a0_10)) else (waystoneref17_Formed.j0 k true a0_0 a0_1 l0_2 l0_3 a0_4 a0_5 a0_6 l0_7 a0_8 a0_9 a0_10)) else (waystoneref17_Formed.j0 k true a0_0 a0_1 l0_2 l0_3 a0_4 a0_5 a0_6 l0_7 a0_8 a0_9 a0_10)) else (waystoneref17_Formed.j0 k true a0_0 a0_1 l0_2 l0_3 a0_4 a0_5 a0_6 l0_7 a0_8 a0_9 a0_10)))) = some r := by first | (rw [hy191]; with_reducible exact H) | (have H2_ := (Option.bind_some _ _).symm.trans H; rw [hy191]; with_reducible exact H2_) | (have H2_ := (Option.bind_some _ _).symm.trans H; with_reducible exact H2_) | with_reducible exact H | (rw [hy191]; exact H) | exact H
  have Ny191 := Aside0.mk hy191
  clear hy191
  replace H := Option.bind_eq_some_iff.mp H
  obtain ⟨t194, A50, H⟩ := H
  replace H : ((waystoneref17_all.f k 255 l0_7).bind fun t195 => (if t185 = true then (if t189 = true then (if t190 = true then (if t194 = true then (if t195 = true then (if (l0_2.length : Int) > 100 then (waystoneref17_Formed.j0 k true a0_0 a0_1 l0_2 l0_3 a0_4 a0_5 a0_6 l0_7 a0_8 a0_9 a0_10) else (if (l0_3.length : Int) > 100 then (waystoneref17_Formed.j0 k true a0_0 a0_1 l0_2 l0_3 a0_4 a0_5 a0_6 l0_7 a0_8 a0_9 a0_10) else (waystoneref17_Formed.j0 k (decide ((l0_7.length : Int) > 100)) a0_0 a0_1 l0_2 l0_3 a0_4 a0_5 a0_6 l0_7 a0_8 a0_9 a0_10))) else (waystoneref17_Formed.j0 k true a0_0 a0_1 l0_2 l0_3 a0_4 a0_5 a0_6 l0_7 a0_8 a0_9 a0_10)) else (waystoneref17_Formed.j0 k true a0_0 a0_1 l0_2 l0_3 a0_4 a0_5 a0_6 l0_7 a0_8 a0_9 a0_10)) else (waystoneref17_Formed.j0 k true a0_0 a0_1 l0_2 l0_3 a0_4 a0_5 a0_6 l0_7 a0_8 a0_9 a0_10)) else (waystoneref17_Formed.j0 k true a0_0 a0_1 l0_2 l0_3 a0_4 a0_5 a0_6 l0_7 a0_8 a0_9 a0_10)) else (waystoneref17_Formed.j0 k true a0_0 a0_1 l0_2 l0_3 a0_4 a0_5 a0_6 l0_7 a0_8 a0_9 a0_10))) = some r := H
  have A5 := Aside0.mk A50
  clear A50
  replace H := Option.bind_eq_some_iff.mp H
  obtain ⟨t195, A60, H⟩ := H
  replace H : (if t185 = true then (if t189 = true then (if t190 = true then (if t194 = true then (if t195 = true then (if (l0_2.length : Int) > 100 then (waystoneref17_Formed.j0 k true a0_0 a0_1 l0_2 l0_3 a0_4 a0_5 a0_6 l0_7 a0_8 a0_9 a0_10) else (if (l0_3.length : Int) > 100 then (waystoneref17_Formed.j0 k true a0_0 a0_1 l0_2 l0_3 a0_4 a0_5 a0_6 l0_7 a0_8 a0_9 a0_10) else (waystoneref17_Formed.j0 k (decide ((l0_7.length : Int) > 100)) a0_0 a0_1 l0_2 l0_3 a0_4 a0_5 a0_6 l0_7 a0_8 a0_9 a0_10))) else (waystoneref17_Formed.j0 k true a0_0 a0_1 l0_2 l0_3 a0_4 a0_5 a0_6 l0_7 a0_8 a0_9 a0_10)) else (waystoneref17_Formed.j0 k true a0_0 a0_1 l0_2 l0_3 a0_4 a0_5 a0_6 l0_7 a0_8 a0_9 a0_10)) else (waystoneref17_Formed.j0 k true a0_0 a0_1 l0_2 l0_3 a0_4 a0_5 a0_6 l0_7 a0_8 a0_9 a0_10)) else (waystoneref17_Formed.j0 k true a0_0 a0_1 l0_2 l0_3 a0_4 a0_5 a0_6 l0_7 a0_8 a0_9 a0_10)) else (waystoneref17_Formed.j0 k true a0_0 a0_1 l0_2 l0_3 a0_4 a0_5 a0_6 l0_7 a0_8 a0_9 a0_10)) = some r := H
  have A6 := Aside0.mk A60
  clear A60
  have HC7 := Aside0.mk H
  clear H
  go_enter Try.func46, Try.ntmps46
  go_upto_region 7 with (first | ((with_reducible refine gate_dst (N := 1) rfl ?_); (try (refine gate_guard (by rfl) ?_; dsimp only)); refine box_event ?hg (N := 1) ?hd (cs := #[.int .i64 a0_0, .int .i64 a0_1, .slice A0_2 l0_2.length c0_2, .slice A0_3 l0_3.length c0_3, .bool a0_4, .int .i64 a0_5, .int .u32 a0_6, .slice A0_7 l0_7.length c0_7, .int .i64 a0_8, .int .i64 a0_9, .int .i64 a0_10]) (t := 50) ?hr ?_; (case hd => rfl); (case hg => rfl); (case hr => first | (go_simp; done) | (go_simp; rfl)); intro gb180 hg w8 hbox hb; have n0_ := Aside0.mk (below_step (by repeat (first | (with_reducible first | exact HB.out | apply below_alloc | apply pw_below_drewN | apply below_drew1) | exact HB.out)) hb); have n1_ := Aside0.mk (hbox); have n2_ := Aside0.mk ((by rw [hg]; exact (below_size (by repeat (first | (with_reducible first | exact HB.out | apply below_alloc | apply pw_below_drewN | apply below_drew1) | exact HB.out))) : w.heap.size ≤ gb180)); have n3_ := Aside0.mk ((by rw [hg]; exact (below_size (by repeat (first | (with_reducible first | exact HB.out | apply below_alloc | apply pw_below_drewN | apply below_drew1) | exact HB.out))) : w.heap.size ≤ gb180)); clear HB; have HB := n0_; have BK180 := n1_; have GW180 := n2_; have GE180 := n3_; clear n0_ n1_ n2_ n3_; clear hb hbox hg; have hcz9_0 : w8.cell? ⟨gb180, 0, none⟩ = some (.int .i64 a0_0) := (blk_cell BK180.out 0).trans rfl; have hcz9_1 : w8.cell? ⟨gb180, 1, none⟩ = some (.int .i64 a0_1) := (blk_cell BK180.out 1).trans rfl; have hcz9_2 : w8.cell? ⟨gb180, 2, none⟩ = some (.slice A0_2 l0_2.length c0_2) := (blk_cell BK180.out 2).trans rfl; have hcz9_3 : w8.cell? ⟨gb180, 3, none⟩ = some (.slice A0_3 l0_3.length c0_3) := (blk_cell BK180.out 3).trans rfl; have hcz9_4 : w8.cell? ⟨gb180, 4, none⟩ = some (.bool a0_4) := (blk_cell BK180.out 4).trans rfl; have hcz9_5 : w8.cell? ⟨gb180, 5, none⟩ = some (.int .i64 a0_5) := (blk_cell BK180.out 5).trans rfl; have hcz9_6 : w8.cell? ⟨gb180, 6, none⟩ = some (.int .u32 a0_6) := (blk_cell BK180.out 6).trans rfl; have hcz9_7 : w8.cell? ⟨gb180, 7, none⟩ = some (.slice A0_7 l0_7.length c0_7) := (blk_cell BK180.out 7).trans rfl; have hcz9_8 : w8.cell? ⟨gb180, 8, none⟩ = some (.int .i64 a0_8) := (blk_cell BK180.out 8).trans rfl; have hcz9_9 : w8.cell? ⟨gb180, 9, none⟩ = some (.int .i64 a0_9) := (blk_cell BK180.out 9).trans rfl; have hcz9_10 : w8.cell? ⟨gb180, 10, none⟩ = some (.int .i64 a0_10) := (blk_cell BK180.out 10).trans rfl; have hfz9_0 := blk_frozen BK180.out 0; have hfz9_1 := blk_frozen BK180.out 1; have hfz9_2 := blk_frozen BK180.out 2; have hfz9_3 := blk_frozen BK180.out 3; have hfz9_4 := blk_frozen BK180.out 4; have hfz9_5 := blk_frozen BK180.out 5; have hfz9_6 := blk_frozen BK180.out 6; have hfz9_7 := blk_frozen BK180.out 7; have hfz9_8 := blk_frozen BK180.out 8; have hfz9_9 := blk_frozen BK180.out 9; have hfz9_10 := blk_frozen BK180.out 10) | ((with_reducible refine gate_dst (N := 3) rfl ?_); (try (refine gate_guard (by rfl) ?_; dsimp only)); refine box_event ?hg (N := 3) ?hd (cs := #[.bool false, .int .i64 0, .int .u32 0, .slice none 0 0, .int .i64 0, .int .i64 0, .int .i64 0]) (t := 48) ?hr ?_; (case hd => rfl); (case hg => rfl); (case hr => first | (go_simp; done) | (go_simp; rfl)); intro gb181 hg w10 hbox hb; have n0_ := Aside0.mk (blk_below (g := gb180) (o := .cells #[.int .i64 a0_0, .int .i64 a0_1, .slice A0_2 l0_2.length c0_2, .slice A0_3 l0_3.length c0_3, .bool a0_4, .int .i64 a0_5, .int .u32 a0_6, .slice A0_7 l0_7.length c0_7, .int .i64 a0_8, .int .i64 a0_9, .int .i64 a0_10] 50 (0, 0)) (by (with_reducible repeat (first | refine blk_drewN ?_ _ | refine blk_drew ?_ | refine blk_alloc ?_ _)); exact BK180.out) hb); have n1_ := Aside0.mk (below_step (by repeat (first | (with_reducible first | exact HB.out | apply below_alloc | apply pw_below_drewN | apply below_drew1 | refine below_set ?_ GE180.out) | exact HB.out)) hb); have n2_ := Aside0.mk (hbox); have n3_ := Aside0.mk ((by rw [hg]; exact (below_size (by repeat (first | (with_reducible first | exact HB.out | apply below_alloc | apply pw_below_drewN | apply below_drew1 | refine below_set ?_ GE180.out) | exact HB.out))) : w.heap.size ≤ gb181)); have n4_ := Aside0.mk ((by rw [hg]; exact (below_size (by repeat (first | (with_reducible first | exact HB.out | apply below_alloc | apply pw_below_drewN | apply below_drew1 | refine below_set ?_ GE180.out) | exact HB.out))) : w.heap.size ≤ gb181)); have n5_ := Aside0.mk ((by rw [hg]; exact Nat.ne_of_lt (blk_lt (g := gb180) (o := .cells #[.int .i64 a0_0, .int .i64 a0_1, .slice A0_2 l0_2.length c0_2, .slice A0_3 l0_3.length c0_3, .bool a0_4, .int .i64 a0_5, .int .u32 a0_6, .slice A0_7 l0_7.length c0_7, .int .i64 a0_8, .int .i64 a0_9, .int .i64 a0_10] 50 (0, 0)) (by (with_reducible repeat (first | refine blk_drewN ?_ _ | refine blk_drew ?_ | refine blk_alloc ?_ _)); exact BK180.out)) : gb180 ≠ gb181)); have n6_ := Aside0.mk ((by rw [hg]; exact Nat.ne_of_gt (blk_lt (g := gb180) (o := .cells #[.int .i64 a0_0, .int .i64 a0_1, .slice A0_2 l0_2.length c0_2, .slice A0_3 l0_3.length c0_3, .bool a0_4, .int .i64 a0_5, .int .u32 a0_6, .slice A0_7 l0_7.length c0_7, .int .i64 a0_8, .int .i64 a0_9, .int .i64 a0_10] 50 (0, 0)) (by (with_reducible repeat (first | refine blk_drewN ?_ _ | refine blk_drew ?_ | refine blk_alloc ?_ _)); exact BK180.out)) : gb181 ≠ gb180)); clear BK180; clear HB; have BK180 := n0_; have HB := n1_; have BK181 := n2_; have GW181 := n3_; have GE181 := n4_; have NB180_181 := n5_; have NB181_180 := n6_; clear n0_ n1_ n2_ n3_ n4_ n5_ n6_; clear hb hbox hg; have hnb11 := NB181_180.out; have hnc11 := NB180_181.out; have hcz12_0 : w10.cell? ⟨gb181, 0, none⟩ = some (.bool false) := (blk_cell BK181.out 0).trans rfl; have hcz12_1 : w10.cell? ⟨gb181, 1, none⟩ = some (.int .i64 0) := (blk_cell BK181.out 1).trans rfl; have hcz12_2 : w10.cell? ⟨gb181, 2, none⟩ = some (.int .u32 0) := (blk_cell BK181.out 2).trans rfl; have hcz12_3 : w10.cell? ⟨gb181, 3, none⟩ = some (.slice none 0 0) := (blk_cell BK181.out 3).trans rfl; have hcz12_4 : w10.cell? ⟨gb181, 4, none⟩ = some (.int .i64 0) := (blk_cell BK181.out 4).trans rfl; have hcz12_5 : w10.cell? ⟨gb181, 5, none⟩ = some (.int .i64 0) := (blk_cell BK181.out 5).trans rfl; have hcz12_6 : w10.cell? ⟨gb181, 6, none⟩ = some (.int .i64 0) := (blk_cell BK181.out 6).trans rfl; have hfz12_0 := blk_frozen BK181.out 0; have hfz12_1 := blk_frozen BK181.out 1; have hfz12_2 := blk_frozen BK181.out 2; have hfz12_3 := blk_frozen BK181.out 3; have hfz12_4 := blk_frozen BK181.out 4; have hfz12_5 := blk_frozen BK181.out 5; have hfz12_6 := blk_frozen BK181.out 6; have hcz13_0 : w10.cell? ⟨gb180, 0, none⟩ = some (.int .i64 a0_0) := (blk_cell BK180.out 0).trans rfl; have hcz13_1 : w10.cell? ⟨gb180, 1, none⟩ = some (.int .i64 a0_1) := (blk_cell BK180.out 1).trans rfl; have hcz13_2 : w10.cell? ⟨gb180, 2, none⟩ = some (.slice A0_2 l0_2.length c0_2) := (blk_cell BK180.out 2).trans rfl; have hcz13_3 : w10.cell? ⟨gb180, 3, none⟩ = some (.slice A0_3 l0_3.length c0_3) := (blk_cell BK180.out 3).trans rfl; have hcz13_4 : w10.cell? ⟨gb180, 4, none⟩ = some (.bool a0_4) := (blk_cell BK180.out 4).trans rfl; have hcz13_5 : w10.cell? ⟨gb180, 5, none⟩ = some (.int .i64 a0_5) := (blk_cell BK180.out 5).trans rfl; have hcz13_6 : w10.cell? ⟨gb180, 6, none⟩ = some (.int .u32 a0_6) := (blk_cell BK180.out 6).trans rfl; have hcz13_7 : w10.cell? ⟨gb180, 7, none⟩ = some (.slice A0_7 l0_7.length c0_7) := (blk_cell BK180.out 7).trans rfl; have hcz13_8 : w10.cell? ⟨gb180, 8, none⟩ = some (.int .i64 a0_8) := (blk_cell BK180.out 8).trans rfl; have hcz13_9 : w10.cell? ⟨gb180, 9, none⟩ = some (.int .i64 a0_9) := (blk_cell BK180.out 9).trans rfl; have hcz13_10 : w10.cell? ⟨gb180, 10, none⟩ = some (.int .i64 a0_10) := (blk_cell BK180.out 10).trans rfl; have hfz13_0 := blk_frozen BK180.out 0; have hfz13_1 := blk_frozen BK180.out 1; have hfz13_2 := blk_frozen BK180.out 2; have hfz13_3 := blk_frozen BK180.out 3; have hfz13_4 := blk_frozen BK180.out 4; have hfz13_5 := blk_frozen BK180.out 5; have hfz13_6 := blk_frozen BK180.out 6; have hfz13_7 := blk_frozen BK180.out 7; have hfz13_8 := blk_frozen BK180.out 8; have hfz13_9 := blk_frozen BK180.out 9; have hfz13_10 := blk_frozen BK180.out 10) | ((with_reducible refine gate_dst (N := 15) rfl ?_); (try (refine gate_guard (by rfl) ?_; dsimp only)); refine Kd.R_lit (Kd.int .i64) _ 3 ?hg (N := 15) ?hd (xs := ([a0_0] : List Int)) (inner := [.int .i64 a0_0]) (ok := fun _ => True) (okp := fun _ => True) ?hr ?hp (fun _ hk => hk) trivial (Below.refl _ _) (Nat.le_refl _) (by simp) ?_; (case hd => rfl); (case hg => rfl); (case hr => first | (go_simp; done) | (go_simp; rfl)); (case hp => exact (Reps.one (show Kd.M (Kd.int .i64) _ _ _ a0_0 [.int .i64 a0_0] from rfl) (Reps.none _ _))); intro v183 w14 ho15 hb hg_ hnew_; clear hg_ hnew_; (first | rw [← Ny182.out] at ho15 | (simp only [Int.reduceToNat] at ho15; rw [← Ny182.out] at ho15)); have n0_ := Aside0.mk (Kd.R_lower ho15 (below_size (by repeat (first | (with_reducible first | exact HB.out | apply below_alloc | apply pw_below_drewN | apply below_drew1 | refine below_set ?_ GE180.out | refine below_set ?_ GE181.out) | exact HB.out)))); have n1_ := Aside0.mk (blk_below (g := gb180) (o := .cells #[.int .i64 a0_0, .int .i64 a0_1, .slice A0_2 l0_2.length c0_2, .slice A0_3 l0_3.length c0_3, .bool a0_4, .int .i64 a0_5, .int .u32 a0_6, .slice A0_7 l0_7.length c0_7, .int .i64 a0_8, .int .i64 a0_9, .int .i64 a0_10] 50 (0, 0)) (by (with_reducible repeat (first | refine blk_drewN ?_ _ | refine blk_drew ?_ | refine blk_alloc ?_ _)); refine blk_far ?_ NB180_181.out _; (with_reducible repeat (first | refine blk_drewN ?_ _ | refine blk_drew ?_ | refine blk_alloc ?_ _)); refine blk_far ?_ NB180_181.out _; (with_reducible repeat (first | refine blk_drewN ?_ _ | refine blk_drew ?_ | refine blk_alloc ?_ _)); refine blk_far ?_ NB180_181.out _; (with_reducible repeat (first | refine blk_drewN ?_ _ | refine blk_drew ?_ | refine blk_alloc ?_ _)); refine blk_far ?_ NB180_181.out _; (with_reducible repeat (first | refine blk_drewN ?_ _ | refine blk_drew ?_ | refine blk_alloc ?_ _)); refine blk_far ?_ NB180_181.out _; (with_reducible repeat (first | refine blk_drewN ?_ _ | refine blk_drew ?_ | refine blk_alloc ?_ _)); refine blk_far ?_ NB180_181.out _; (with_reducible repeat (first | refine blk_drewN ?_ _ | refine blk_drew ?_ | refine blk_alloc ?_ _)); refine blk_far ?_ NB180_181.out _; (with_reducible repeat (first | refine blk_drewN ?_ _ | refine blk_drew ?_ | refine blk_alloc ?_ _)); exact BK180.out) hb); have n2_ := Aside0.mk (blk_below (g := gb181) (o := .cells #[.bool a0_4, .int .i64 a0_5, .int .u32 a0_6, .slice A0_7 l0_7.length c0_7, .int .i64 a0_8, .int .i64 a0_9, .int .i64 a0_10] 48 (0, 0)) (by (with_reducible repeat (first | refine blk_drewN ?_ _ | refine blk_drew ?_ | refine blk_alloc ?_ _)); refine blk_put (cs := #[.bool a0_4, .int .i64 a0_5, .int .u32 a0_6, .slice A0_7 l0_7.length c0_7, .int .i64 a0_8, .int .i64 a0_9, .int .i64 0]) ?_ 6 _ rfl; (with_reducible repeat (first | refine blk_drewN ?_ _ | refine blk_drew ?_ | refine blk_alloc ?_ _)); refine blk_put (cs := #[.bool a0_4, .int .i64 a0_5, .int .u32 a0_6, .slice A0_7 l0_7.length c0_7, .int .i64 a0_8, .int .i64 0, .int .i64 0]) ?_ 5 _ rfl; (with_reducible repeat (first | refine blk_drewN ?_ _ | refine blk_drew ?_ | refine blk_alloc ?_ _)); refine blk_put (cs := #[.bool a0_4, .int .i64 a0_5, .int .u32 a0_6, .slice A0_7 l0_7.length c0_7, .int .i64 0, .int .i64 0, .int .i64 0]) ?_ 4 _ rfl; (with_reducible repeat (first | refine blk_drewN ?_ _ | refine blk_drew ?_ | refine blk_alloc ?_ _)); refine blk_put (cs := #[.bool a0_4, .int .i64 a0_5, .int .u32 a0_6, .slice none 0 0, .int .i64 0, .int .i64 0, .int .i64 0]) ?_ 3 _ rfl; (with_reducible repeat (first | refine blk_drewN ?_ _ | refine blk_drew ?_ | refine blk_alloc ?_ _)); refine blk_put (cs := #[.bool a0_4, .int .i64 a0_5, .int .u32 0, .slice none 0 0, .int .i64 0, .int .i64 0, .int .i64 0]) ?_ 2 _ rfl; (with_reducible repeat (first | refine blk_drewN ?_ _ | refine blk_drew ?_ | refine blk_alloc ?_ _)); refine blk_put (cs := #[.bool a0_4, .int .i64 0, .int .u32 0, .slice none 0 0, .int .i64 0, .int .i64 0, .int .i64 0]) ?_ 1 _ rfl; (with_reducible repeat (first | refine blk_drewN ?_ _ | refine blk_drew ?_ | refine blk_alloc ?_ _)); refine blk_put (cs := #[.bool false, .int .i64 0, .int .u32 0, .slice none 0 0, .int .i64 0, .int .i64 0, .int .i64 0]) ?_ 0 _ rfl; (with_reducible repeat (first | refine blk_drewN ?_ _ | refine blk_drew ?_ | refine blk_alloc ?_ _)); exact BK181.out) hb); have n3_ := Aside0.mk (below_step (by repeat (first | (with_reducible first | exact HB.out | apply below_alloc | apply pw_below_drewN | apply below_drew1 | refine below_set ?_ GE180.out | refine below_set ?_ GE181.out) | exact HB.out)) hb); clear BK180; clear BK181; clear HB; have HO184 := n0_; have BK180 := n1_; have BK181 := n2_; have HB := n3_; clear n0_ n1_ n2_ n3_; clear hb ho15; obtain ⟨Ao16, co16, eo16⟩ := Kd.R_slice HO184.out; subst eo16) | ((with_reducible refine gate_callee (f := 40) rfl ?_); refine goesL_ (some 16) rfl rfl Try.func40 (by kernel_rfl) rfl #[.int .i64 65535, .slice Ao16 y182.length co16] rfl (by (try simp only [List.map_toArray, List.map_cons, List.map_nil]); first | done | rfl | (simp only [List.length_drop, List.length_take]; rfl)) ?_; (with_reducible refine (waystoneref17_all.calls k 65535 _ _ y182 t185 _ ?side1 ?side2 A2.out).mono ?_); (case side1 => repeat (first | exact (Kd.R_reads' HO184.out).2.2 | (with_reducible refine Kd.C_alloc ?_ _) | (with_reducible refine Kd.C_drewN ?_ _) | (with_reducible refine Kd.C_drew ?_))); (case side2 => exact (Kd.R_reads' HO184.out).2.1); rintro e w' ⟨rfl, ⟨nd, rfl⟩⟩; refine ⟨_, rfl, ?_⟩; have hcz17_0 : w14.cell? ⟨gb180, 0, none⟩ = some (.int .i64 a0_0) := (blk_cell BK180.out 0).trans rfl; have hcz17_1 : w14.cell? ⟨gb180, 1, none⟩ = some (.int .i64 a0_1) := (blk_cell BK180.out 1).trans rfl; have hcz17_2 : w14.cell? ⟨gb180, 2, none⟩ = some (.slice A0_2 l0_2.length c0_2) := (blk_cell BK180.out 2).trans rfl; have hcz17_3 : w14.cell? ⟨gb180, 3, none⟩ = some (.slice A0_3 l0_3.length c0_3) := (blk_cell BK180.out 3).trans rfl; have hcz17_4 : w14.cell? ⟨gb180, 4, none⟩ = some (.bool a0_4) := (blk_cell BK180.out 4).trans rfl; have hcz17_5 : w14.cell? ⟨gb180, 5, none⟩ = some (.int .i64 a0_5) := (blk_cell BK180.out 5).trans rfl; have hcz17_6 : w14.cell? ⟨gb180, 6, none⟩ = some (.int .u32 a0_6) := (blk_cell BK180.out 6).trans rfl; have hcz17_7 : w14.cell? ⟨gb180, 7, none⟩ = some (.slice A0_7 l0_7.length c0_7) := (blk_cell BK180.out 7).trans rfl; have hcz17_8 : w14.cell? ⟨gb180, 8, none⟩ = some (.int .i64 a0_8) := (blk_cell BK180.out 8).trans rfl; have hcz17_9 : w14.cell? ⟨gb180, 9, none⟩ = some (.int .i64 a0_9) := (blk_cell BK180.out 9).trans rfl; have hcz17_10 : w14.cell? ⟨gb180, 10, none⟩ = some (.int .i64 a0_10) := (blk_cell BK180.out 10).trans rfl; have hfz17_0 := blk_frozen BK180.out 0; have hfz17_1 := blk_frozen BK180.out 1; have hfz17_2 := blk_frozen BK180.out 2; have hfz17_3 := blk_frozen BK180.out 3; have hfz17_4 := blk_frozen BK180.out 4; have hfz17_5 := blk_frozen BK180.out 5; have hfz17_6 := blk_frozen BK180.out 6; have hfz17_7 := blk_frozen BK180.out 7; have hfz17_8 := blk_frozen BK180.out 8; have hfz17_9 := blk_frozen BK180.out 9; have hfz17_10 := blk_frozen BK180.out 10) | ((with_reducible refine gate_dst (N := 19) rfl ?_); (try (refine gate_guard (by rfl) ?_; dsimp only)); refine Kd.R_lit (Kd.int .i64) _ 3 ?hg (N := 19) ?hd (xs := ([a0_1] : List Int)) (inner := [.int .i64 a0_1]) (ok := fun _ => True) (okp := fun _ => True) ?hr ?hp (fun _ hk => hk) trivial (Below.refl _ _) (Nat.le_refl _) (by simp) ?_; (case hd => rfl); (case hg => rfl); (case hr => first | (go_simp; done) | (go_simp; rfl)); (case hp => exact (Reps.one (show Kd.M (Kd.int .i64) _ _ _ a0_1 [.int .i64 a0_1] from rfl) (Reps.none _ _))); intro v187 w18 ho19 hb hg_ hnew_; clear hg_ hnew_; (first | rw [← Ny186.out] at ho19 | (simp only [Int.reduceToNat] at ho19; rw [← Ny186.out] at ho19)); have n0_ := Aside0.mk (Kd.R_elder' (by (with_reducible repeat (first | apply Kd.R_alloc | apply Kd.R_drewN | apply Kd.R_drew)); exact HO184.out) (Kd.R_base ho19) hb); have n1_ := Aside0.mk (Kd.R_lower (Kd.R_new' ho19 (Kd.R_lt (by (with_reducible repeat (first | apply Kd.R_alloc | apply Kd.R_drewN | apply Kd.R_drew)); exact HO184.out))) (below_size (by repeat (first | (with_reducible first | exact HB.out | apply below_alloc | apply pw_below_drewN | apply below_drew1 | refine below_set ?_ GE180.out | refine below_set ?_ GE181.out) | exact HB.out)))); have n2_ := Aside0.mk (blk_below (g := gb180) (o := .cells #[.int .i64 a0_0, .int .i64 a0_1, .slice A0_2 l0_2.length c0_2, .slice A0_3 l0_3.length c0_3, .bool a0_4, .int .i64 a0_5, .int .u32 a0_6, .slice A0_7 l0_7.length c0_7, .int .i64 a0_8, .int .i64 a0_9, .int .i64 a0_10] 50 (0, 0)) (by (with_reducible repeat (first | refine blk_drewN ?_ _ | refine blk_drew ?_ | refine blk_alloc ?_ _)); exact BK180.out) hb); have n3_ := Aside0.mk (blk_below (g := gb181) (o := .cells #[.bool a0_4, .int .i64 a0_5, .int .u32 a0_6, .slice A0_7 l0_7.length c0_7, .int .i64 a0_8, .int .i64 a0_9, .int .i64 a0_10] 48 (0, 0)) (by (with_reducible repeat (first | refine blk_drewN ?_ _ | refine blk_drew ?_ | refine blk_alloc ?_ _)); exact BK181.out) hb); have n4_ := Aside0.mk (below_step (by repeat (first | (with_reducible first | exact HB.out | apply below_alloc | apply pw_below_drewN | apply below_drew1 | refine below_set ?_ GE180.out | refine below_set ?_ GE181.out) | exact HB.out)) hb); clear HO184; clear BK180; clear BK181; clear HB; have HO184 := n0_; have HO188 := n1_; have BK180 := n2_; have BK181 := n3_; have HB := n4_; clear n0_ n1_ n2_ n3_ n4_; clear hb ho19; obtain ⟨Ao20, co20, eo20⟩ := Kd.R_slice HO188.out; subst eo20) | ((with_reducible refine gate_callee (f := 40) rfl ?_); refine goesL_ (some 20) rfl rfl Try.func40 (by kernel_rfl) rfl #[.int .i64 4294967295, .slice Ao20 y186.length co20] rfl (by (try simp only [List.map_toArray, List.map_cons, List.map_nil]); first | done | rfl | (simp only [List.length_drop, List.length_take]; rfl)) ?_; (with_reducible refine (waystoneref17_all.calls k 4294967295 _ _ y186 t189 _ ?side1 ?side2 A3.out).mono ?_); (case side1 => repeat (first | exact (Kd.R_reads' HO188.out).2.2 | (with_reducible refine Kd.C_alloc ?_ _) | (with_reducible refine Kd.C_drewN ?_ _) | (with_reducible refine Kd.C_drew ?_))); (case side2 => exact (Kd.R_reads' HO188.out).2.1); rintro e w' ⟨rfl, ⟨nd, rfl⟩⟩; refine ⟨_, rfl, ?_⟩; have hcz21_0 : w18.cell? ⟨gb180, 0, none⟩ = some (.int .i64 a0_0) := (blk_cell BK180.out 0).trans rfl; have hcz21_1 : w18.cell? ⟨gb180, 1, none⟩ = some (.int .i64 a0_1) := (blk_cell BK180.out 1).trans rfl; have hcz21_2 : w18.cell? ⟨gb180, 2, none⟩ = some (.slice A0_2 l0_2.length c0_2) := (blk_cell BK180.out 2).trans rfl; have hcz21_3 : w18.cell? ⟨gb180, 3, none⟩ = some (.slice A0_3 l0_3.length c0_3) := (blk_cell BK180.out 3).trans rfl; have hcz21_4 : w18.cell? ⟨gb180, 4, none⟩ = some (.bool a0_4) := (blk_cell BK180.out 4).trans rfl; have hcz21_5 : w18.cell? ⟨gb180, 5, none⟩ = some (.int .i64 a0_5) := (blk_cell BK180.out 5).trans rfl; have hcz21_6 : w18.cell? ⟨gb180, 6, none⟩ = some (.int .u32 a0_6) := (blk_cell BK180.out 6).trans rfl; have hcz21_7 : w18.cell? ⟨gb180, 7, none⟩ = some (.slice A0_7 l0_7.length c0_7) := (blk_cell BK180.out 7).trans rfl; have hcz21_8 : w18.cell? ⟨gb180, 8, none⟩ = some (.int .i64 a0_8) := (blk_cell BK180.out 8).trans rfl; have hcz21_9 : w18.cell? ⟨gb180, 9, none⟩ = some (.int .i64 a0_9) := (blk_cell BK180.out 9).trans rfl; have hcz21_10 : w18.cell? ⟨gb180, 10, none⟩ = some (.int .i64 a0_10) := (blk_cell BK180.out 10).trans rfl; have hfz21_0 := blk_frozen BK180.out 0; have hfz21_1 := blk_frozen BK180.out 1; have hfz21_2 := blk_frozen BK180.out 2; have hfz21_3 := blk_frozen BK180.out 3; have hfz21_4 := blk_frozen BK180.out 4; have hfz21_5 := blk_frozen BK180.out 5; have hfz21_6 := blk_frozen BK180.out 6; have hfz21_7 := blk_frozen BK180.out 7; have hfz21_8 := blk_frozen BK180.out 8; have hfz21_9 := blk_frozen BK180.out 9; have hfz21_10 := blk_frozen BK180.out 10) | ((with_reducible refine gate_callee (f := 40) rfl ?_); refine goesL_ (some 23) rfl rfl Try.func40 (by kernel_rfl) rfl #[.int .i64 4294967295, .slice A0_2 l0_2.length c0_2] rfl (by (try simp only [List.map_toArray, List.map_cons, List.map_nil]); first | done | rfl | (simp only [List.length_drop, List.length_take]; rfl)) ?_; (with_reducible refine (waystoneref17_all.calls k 4294967295 _ _ l0_2 t190 _ ?side1 ?side2 A4.out).mono ?_); (case side1 => repeat (first | exact (Kd.C_below HR0_2.out (by repeat (first | (with_reducible first | exact HB.out | apply below_alloc | apply pw_below_drewN | apply below_drew1 | refine below_set ?_ GE180.out | refine below_set ?_ GE181.out) | exact HB.out))) | (with_reducible refine Kd.C_alloc ?_ _) | (with_reducible refine Kd.C_drewN ?_ _) | (with_reducible refine Kd.C_drew ?_))); (case side2 => exact HC0_2.out); rintro e w' ⟨rfl, ⟨nd, rfl⟩⟩; refine ⟨_, rfl, ?_⟩; have hcz22_0 : w18.cell? ⟨gb181, 0, none⟩ = some (.bool a0_4) := (blk_cell BK181.out 0).trans rfl; have hcz22_1 : w18.cell? ⟨gb181, 1, none⟩ = some (.int .i64 a0_5) := (blk_cell BK181.out 1).trans rfl; have hcz22_2 : w18.cell? ⟨gb181, 2, none⟩ = some (.int .u32 a0_6) := (blk_cell BK181.out 2).trans rfl; have hcz22_3 : w18.cell? ⟨gb181, 3, none⟩ = some (.slice A0_7 l0_7.length c0_7) := (blk_cell BK181.out 3).trans rfl; have hcz22_4 : w18.cell? ⟨gb181, 4, none⟩ = some (.int .i64 a0_8) := (blk_cell BK181.out 4).trans rfl; have hcz22_5 : w18.cell? ⟨gb181, 5, none⟩ = some (.int .i64 a0_9) := (blk_cell BK181.out 5).trans rfl; have hcz22_6 : w18.cell? ⟨gb181, 6, none⟩ = some (.int .i64 a0_10) := (blk_cell BK181.out 6).trans rfl; have hfz22_0 := blk_frozen BK181.out 0; have hfz22_1 := blk_frozen BK181.out 1; have hfz22_2 := blk_frozen BK181.out 2; have hfz22_3 := blk_frozen BK181.out 3; have hfz22_4 := blk_frozen BK181.out 4; have hfz22_5 := blk_frozen BK181.out 5; have hfz22_6 := blk_frozen BK181.out 6) | ((with_reducible refine gate_dst (N := 37) rfl ?_); (try (refine gate_guard (by rfl) ?_; dsimp only)); refine Kd.R_lit (Kd.int .i64) _ 3 ?hg (N := 37) ?hd (xs := ([a0_5, a0_8, a0_9, a0_10] : List Int)) (inner := [.int .i64 a0_5, .int .i64 a0_8, .int .i64 a0_9, .int .i64 a0_10]) (ok := fun _ => True) (okp := fun _ => True) ?hr ?hp (fun _ hk => hk) trivial (Below.refl _ _) (Nat.le_refl _) (by simp) ?_; (case hd => rfl); (case hg => rfl); (case hr => first | (go_simp; done) | (go_simp; rfl)); (case hp => exact (Reps.one (show Kd.M (Kd.int .i64) _ _ _ a0_5 [.int .i64 a0_5] from rfl) (Reps.one (show Kd.M (Kd.int .i64) _ _ _ a0_8 [.int .i64 a0_8] from rfl) (Reps.one (show Kd.M (Kd.int .i64) _ _ _ a0_9 [.int .i64 a0_9] from rfl) (Reps.one (show Kd.M (Kd.int .i64) _ _ _ a0_10 [.int .i64 a0_10] from rfl) (Reps.none _ _)))))); intro v192 w23 ho24 hb hg_ hnew_; clear hg_ hnew_; (first | rw [← Ny191.out] at ho24 | (simp only [Int.reduceToNat] at ho24; rw [← Ny191.out] at ho24)); have n0_ := Aside0.mk (Kd.R_elder' (by (with_reducible repeat (first | apply Kd.R_alloc | apply Kd.R_drewN | apply Kd.R_drew)); exact HO184.out) (Kd.R_base ho24) hb); have n1_ := Aside0.mk (Kd.R_elder' (by (with_reducible repeat (first | apply Kd.R_alloc | apply Kd.R_drewN | apply Kd.R_drew)); exact HO188.out) (Kd.R_base ho24) hb); have n2_ := Aside0.mk (Kd.R_lower (Kd.R_new' (Kd.R_new' ho24 (Kd.R_lt (by (with_reducible repeat (first | apply Kd.R_alloc | apply Kd.R_drewN | apply Kd.R_drew)); exact HO184.out))) (Kd.R_lt (by (with_reducible repeat (first | apply Kd.R_alloc | apply Kd.R_drewN | apply Kd.R_drew)); exact HO188.out))) (below_size (by repeat (first | (with_reducible first | exact HB.out | apply below_alloc | apply pw_below_drewN | apply below_drew1 | refine below_set ?_ GE180.out | refine below_set ?_ GE181.out) | exact HB.out)))); have n3_ := Aside0.mk (blk_below (g := gb180) (o := .cells #[.int .i64 a0_0, .int .i64 a0_1, .slice A0_2 l0_2.length c0_2, .slice A0_3 l0_3.length c0_3, .bool a0_4, .int .i64 a0_5, .int .u32 a0_6, .slice A0_7 l0_7.length c0_7, .int .i64 a0_8, .int .i64 a0_9, .int .i64 a0_10] 50 (0, 0)) (by (with_reducible repeat (first | refine blk_drewN ?_ _ | refine blk_drew ?_ | refine blk_alloc ?_ _)); exact BK180.out) hb); have n4_ := Aside0.mk (blk_below (g := gb181) (o := .cells #[.bool a0_4, .int .i64 a0_5, .int .u32 a0_6, .slice A0_7 l0_7.length c0_7, .int .i64 a0_8, .int .i64 a0_9, .int .i64 a0_10] 48 (0, 0)) (by (with_reducible repeat (first | refine blk_drewN ?_ _ | refine blk_drew ?_ | refine blk_alloc ?_ _)); exact BK181.out) hb); have n5_ := Aside0.mk (below_step (by repeat (first | (with_reducible first | exact HB.out | apply below_alloc | apply pw_below_drewN | apply below_drew1 | refine below_set ?_ GE180.out | refine below_set ?_ GE181.out) | exact HB.out)) hb); clear HO184; clear HO188; clear BK180; clear BK181; clear HB; have HO184 := n0_; have HO188 := n1_; have HO193 := n2_; have BK180 := n3_; have BK181 := n4_; have HB := n5_; clear n0_ n1_ n2_ n3_ n4_ n5_; clear hb ho24; obtain ⟨Ao25, co25, eo25⟩ := Kd.R_slice HO193.out; subst eo25) | ((with_reducible refine gate_callee (f := 40) rfl ?_); refine goesL_ (some 38) rfl rfl Try.func40 (by kernel_rfl) rfl #[.int .i64 255, .slice Ao25 y191.length co25] rfl (by (try simp only [List.map_toArray, List.map_cons, List.map_nil]); first | done | rfl | (simp only [List.length_drop, List.length_take]; rfl)) ?_; (with_reducible refine (waystoneref17_all.calls k 255 _ _ y191 t194 _ ?side1 ?side2 A5.out).mono ?_); (case side1 => repeat (first | exact (Kd.R_reads' HO193.out).2.2 | (with_reducible refine Kd.C_alloc ?_ _) | (with_reducible refine Kd.C_drewN ?_ _) | (with_reducible refine Kd.C_drew ?_))); (case side2 => exact (Kd.R_reads' HO193.out).2.1); rintro e w' ⟨rfl, ⟨nd, rfl⟩⟩; refine ⟨_, rfl, ?_⟩; have hcz26_0 : w23.cell? ⟨gb181, 0, none⟩ = some (.bool a0_4) := (blk_cell BK181.out 0).trans rfl; have hcz26_1 : w23.cell? ⟨gb181, 1, none⟩ = some (.int .i64 a0_5) := (blk_cell BK181.out 1).trans rfl; have hcz26_2 : w23.cell? ⟨gb181, 2, none⟩ = some (.int .u32 a0_6) := (blk_cell BK181.out 2).trans rfl; have hcz26_3 : w23.cell? ⟨gb181, 3, none⟩ = some (.slice A0_7 l0_7.length c0_7) := (blk_cell BK181.out 3).trans rfl; have hcz26_4 : w23.cell? ⟨gb181, 4, none⟩ = some (.int .i64 a0_8) := (blk_cell BK181.out 4).trans rfl; have hcz26_5 : w23.cell? ⟨gb181, 5, none⟩ = some (.int .i64 a0_9) := (blk_cell BK181.out 5).trans rfl; have hcz26_6 : w23.cell? ⟨gb181, 6, none⟩ = some (.int .i64 a0_10) := (blk_cell BK181.out 6).trans rfl; have hfz26_0 := blk_frozen BK181.out 0; have hfz26_1 := blk_frozen BK181.out 1; have hfz26_2 := blk_frozen BK181.out 2; have hfz26_3 := blk_frozen BK181.out 3; have hfz26_4 := blk_frozen BK181.out 4; have hfz26_5 := blk_frozen BK181.out 5; have hfz26_6 := blk_frozen BK181.out 6) | ((with_reducible refine gate_callee (f := 40) rfl ?_); refine goesL_ (some 42) rfl rfl Try.func40 (by kernel_rfl) rfl #[.int .i64 255, .slice A0_7 l0_7.length c0_7] rfl (by (try simp only [List.map_toArray, List.map_cons, List.map_nil]); first | done | rfl | (simp only [List.length_drop, List.length_take]; rfl)) ?_; (with_reducible refine (waystoneref17_all.calls k 255 _ _ l0_7 t195 _ ?side1 ?side2 A6.out).mono ?_); (case side1 => repeat (first | exact (Kd.C_below HR0_7.out (by repeat (first | (with_reducible first | exact HB.out | apply below_alloc | apply pw_below_drewN | apply below_drew1 | refine below_set ?_ GE180.out | refine below_set ?_ GE181.out) | exact HB.out))) | (with_reducible refine Kd.C_alloc ?_ _) | (with_reducible refine Kd.C_drewN ?_ _) | (with_reducible refine Kd.C_drew ?_))); (case side2 => exact HC0_7.out); rintro e w' ⟨rfl, ⟨nd, rfl⟩⟩; refine ⟨_, rfl, ?_⟩))
  (try simp only [Act.put, List.setIfInBounds_toArray, List.set_cons_zero, List.set_cons_succ])
  go_cut [79] (fun v79 wc => ∃ (kq : Nat) (x79_6 : Bool), v79 = .bool x79_6 ∧ Aside0 (waystoneref17_Formed.j0 kq x79_6 a0_0 a0_1 l0_2 l0_3 a0_4 a0_5 a0_6 l0_7 a0_8 a0_9 a0_10 = some r) ∧ Aside0 (kq ≤ k) ∧ Aside0 (wc.heap[gb180]? = some (.cells #[.int .i64 a0_0, .int .i64 a0_1, (.slice A0_2 l0_2.length c0_2), (.slice A0_3 l0_3.length c0_3), .bool a0_4, .int .i64 a0_5, .int .u32 a0_6, (.slice A0_7 l0_7.length c0_7), .int .i64 a0_8, .int .i64 a0_9, .int .i64 a0_10] 50 (0, 0))) ∧ Aside0 (wc.heap[gb181]? = some (.cells #[.bool a0_4, .int .i64 a0_5, .int .u32 a0_6, (.slice A0_7 l0_7.length c0_7), .int .i64 a0_8, .int .i64 a0_9, .int .i64 a0_10] 48 (0, 0))) ∧ Aside0 (Below w.heap.size w wc))
  case first =>
    have H := HC7.out
    clear HC7
    by_cases c27 : t185 = true
    · subst c27
      have H1 : (if t189 = true then (if t190 = true then (if t194 = true then (if t195 = true then (if (l0_2.length : Int) > 100 then (waystoneref17_Formed.j0 k true a0_0 a0_1 l0_2 l0_3 a0_4 a0_5 a0_6 l0_7 a0_8 a0_9 a0_10) else (if (l0_3.length : Int) > 100 then (waystoneref17_Formed.j0 k true a0_0 a0_1 l0_2 l0_3 a0_4 a0_5 a0_6 l0_7 a0_8 a0_9 a0_10) else (waystoneref17_Formed.j0 k (decide ((l0_7.length : Int) > 100)) a0_0 a0_1 l0_2 l0_3 a0_4 a0_5 a0_6 l0_7 a0_8 a0_9 a0_10))) else (waystoneref17_Formed.j0 k true a0_0 a0_1 l0_2 l0_3 a0_4 a0_5 a0_6 l0_7 a0_8 a0_9 a0_10)) else (waystoneref17_Formed.j0 k true a0_0 a0_1 l0_2 l0_3 a0_4 a0_5 a0_6 l0_7 a0_8 a0_9 a0_10)) else (waystoneref17_Formed.j0 k true a0_0 a0_1 l0_2 l0_3 a0_4 a0_5 a0_6 l0_7 a0_8 a0_9 a0_10)) else (waystoneref17_Formed.j0 k true a0_0 a0_1 l0_2 l0_3 a0_4 a0_5 a0_6 l0_7 a0_8 a0_9 a0_10)) = some r := by rw [if_pos rfl] at H; exact H
      clear H
      have H := H1
      clear H1
      by_cases c28 : t189 = true
      · subst c28
        have H1 : (if t190 = true then (if t194 = true then (if t195 = true then (if (l0_2.length : Int) > 100 then (waystoneref17_Formed.j0 k true a0_0 a0_1 l0_2 l0_3 a0_4 a0_5 a0_6 l0_7 a0_8 a0_9 a0_10) else (if (l0_3.length : Int) > 100 then (waystoneref17_Formed.j0 k true a0_0 a0_1 l0_2 l0_3 a0_4 a0_5 a0_6 l0_7 a0_8 a0_9 a0_10) else (waystoneref17_Formed.j0 k (decide ((l0_7.length : Int) > 100)) a0_0 a0_1 l0_2 l0_3 a0_4 a0_5 a0_6 l0_7 a0_8 a0_9 a0_10))) else (waystoneref17_Formed.j0 k true a0_0 a0_1 l0_2 l0_3 a0_4 a0_5 a0_6 l0_7 a0_8 a0_9 a0_10)) else (waystoneref17_Formed.j0 k true a0_0 a0_1 l0_2 l0_3 a0_4 a0_5 a0_6 l0_7 a0_8 a0_9 a0_10)) else (waystoneref17_Formed.j0 k true a0_0 a0_1 l0_2 l0_3 a0_4 a0_5 a0_6 l0_7 a0_8 a0_9 a0_10)) = some r := by rw [if_pos rfl] at H; exact H
        clear H
        have H := H1
        clear H1
        by_cases c29 : t190 = true
        · subst c29
          have H1 : (if t194 = true then (if t195 = true then (if (l0_2.length : Int) > 100 then (waystoneref17_Formed.j0 k true a0_0 a0_1 l0_2 l0_3 a0_4 a0_5 a0_6 l0_7 a0_8 a0_9 a0_10) else (if (l0_3.length : Int) > 100 then (waystoneref17_Formed.j0 k true a0_0 a0_1 l0_2 l0_3 a0_4 a0_5 a0_6 l0_7 a0_8 a0_9 a0_10) else (waystoneref17_Formed.j0 k (decide ((l0_7.length : Int) > 100)) a0_0 a0_1 l0_2 l0_3 a0_4 a0_5 a0_6 l0_7 a0_8 a0_9 a0_10))) else (waystoneref17_Formed.j0 k true a0_0 a0_1 l0_2 l0_3 a0_4 a0_5 a0_6 l0_7 a0_8 a0_9 a0_10)) else (waystoneref17_Formed.j0 k true a0_0 a0_1 l0_2 l0_3 a0_4 a0_5 a0_6 l0_7 a0_8 a0_9 a0_10)) = some r := by rw [if_pos rfl] at H; exact H
          clear H
          have H := H1
          clear H1
          by_cases c30 : t194 = true
          · subst c30
            have H1 : (if t195 = true then (if (l0_2.length : Int) > 100 then (waystoneref17_Formed.j0 k true a0_0 a0_1 l0_2 l0_3 a0_4 a0_5 a0_6 l0_7 a0_8 a0_9 a0_10) else (if (l0_3.length : Int) > 100 then (waystoneref17_Formed.j0 k true a0_0 a0_1 l0_2 l0_3 a0_4 a0_5 a0_6 l0_7 a0_8 a0_9 a0_10) else (waystoneref17_Formed.j0 k (decide ((l0_7.length : Int) > 100)) a0_0 a0_1 l0_2 l0_3 a0_4 a0_5 a0_6 l0_7 a0_8 a0_9 a0_10))) else (waystoneref17_Formed.j0 k true a0_0 a0_1 l0_2 l0_3 a0_4 a0_5 a0_6 l0_7 a0_8 a0_9 a0_10)) = some r := by rw [if_pos rfl] at H; exact H
            clear H
            have H := H1
            clear H1
            by_cases c31 : t195 = true
            · subst c31
              have H1 : (if (l0_2.length : Int) > 100 then (waystoneref17_Formed.j0 k true a0_0 a0_1 l0_2 l0_3 a0_4 a0_5 a0_6 l0_7 a0_8 a0_9 a0_10) else (if (l0_3.length : Int) > 100 then (waystoneref17_Formed.j0 k true a0_0 a0_1 l0_2 l0_3 a0_4 a0_5 a0_6 l0_7 a0_8 a0_9 a0_10) else (waystoneref17_Formed.j0 k (decide ((l0_7.length : Int) > 100)) a0_0 a0_1 l0_2 l0_3 a0_4 a0_5 a0_6 l0_7 a0_8 a0_9 a0_10))) = some r := by rw [if_pos rfl] at H; exact H
              clear H
              have H := H1
              clear H1
              by_cases c32 : (l0_2.length : Int) > 100
              · rw [if_pos c32] at H
                have c32b0 : decide (100 < (l0_2.length : Int)) = true := decide_eq_true c32
                have c32b1 : decide (100 < l0_2.length) = true := decide_eq_true (by omega)
                clear c32
                (first | rw [c32b0] | (simp only [i64_w, i32_w]; rw [c32b0]) | skip)
                have H' := Aside0.mk H
                clear H
                have hnb33 := NB180_181.out
                have hnc33 := NB181_180.out
                have hcz34_0 : w23.cell? ⟨gb180, 0, none⟩ = some (.int .i64 a0_0) := (blk_cell BK180.out 0).trans rfl
                have hcz34_1 : w23.cell? ⟨gb180, 1, none⟩ = some (.int .i64 a0_1) := (blk_cell BK180.out 1).trans rfl
                have hcz34_2 : w23.cell? ⟨gb180, 2, none⟩ = some (.slice A0_2 l0_2.length c0_2) := (blk_cell BK180.out 2).trans rfl
                have hcz34_3 : w23.cell? ⟨gb180, 3, none⟩ = some (.slice A0_3 l0_3.length c0_3) := (blk_cell BK180.out 3).trans rfl
                have hcz34_4 : w23.cell? ⟨gb180, 4, none⟩ = some (.bool a0_4) := (blk_cell BK180.out 4).trans rfl
                have hcz34_5 : w23.cell? ⟨gb180, 5, none⟩ = some (.int .i64 a0_5) := (blk_cell BK180.out 5).trans rfl
                have hcz34_6 : w23.cell? ⟨gb180, 6, none⟩ = some (.int .u32 a0_6) := (blk_cell BK180.out 6).trans rfl
                have hcz34_7 : w23.cell? ⟨gb180, 7, none⟩ = some (.slice A0_7 l0_7.length c0_7) := (blk_cell BK180.out 7).trans rfl
                have hcz34_8 : w23.cell? ⟨gb180, 8, none⟩ = some (.int .i64 a0_8) := (blk_cell BK180.out 8).trans rfl
                have hcz34_9 : w23.cell? ⟨gb180, 9, none⟩ = some (.int .i64 a0_9) := (blk_cell BK180.out 9).trans rfl
                have hcz34_10 : w23.cell? ⟨gb180, 10, none⟩ = some (.int .i64 a0_10) := (blk_cell BK180.out 10).trans rfl
                have hfz34_0 := blk_frozen BK180.out 0
                have hfz34_1 := blk_frozen BK180.out 1
                have hfz34_2 := blk_frozen BK180.out 2
                have hfz34_3 := blk_frozen BK180.out 3
                have hfz34_4 := blk_frozen BK180.out 4
                have hfz34_5 := blk_frozen BK180.out 5
                have hfz34_6 := blk_frozen BK180.out 6
                have hfz34_7 := blk_frozen BK180.out 7
                have hfz34_8 := blk_frozen BK180.out 8
                have hfz34_9 := blk_frozen BK180.out 9
                have hfz34_10 := blk_frozen BK180.out 10
                go_wp2
                go_meet
                case rel => exact ⟨_, (true), (by first | rfl | (simp; done) | (simp [*]; done)), H', ⟨by first | omega | exact Nat.le_refl _⟩, ⟨by (with_reducible repeat (first | refine blk_drewN ?_ _ | refine blk_drew ?_ | refine blk_alloc ?_ _)); exact BK180.out⟩, ⟨by (with_reducible repeat (first | refine blk_drewN ?_ _ | refine blk_drew ?_ | refine blk_alloc ?_ _)); exact BK181.out⟩, ⟨by repeat (first | (with_reducible first | exact HB.out | apply below_alloc | apply pw_below_drewN | apply below_drew1 | refine below_set ?_ GE180.out | refine below_set ?_ GE181.out) | exact HB.out)⟩⟩
              · rw [if_neg c32] at H
                have c32b0 : decide (100 < (l0_2.length : Int)) = false := decide_eq_false c32
                have c32b1 : decide (100 < l0_2.length) = false := decide_eq_false (by omega)
                clear c32
                (first | rw [c32b0] | (simp only [i64_w, i32_w]; rw [c32b0]) | skip)
                by_cases c35 : (l0_3.length : Int) > 100
                · rw [if_pos c35] at H
                  have c35b0 : decide (100 < (l0_3.length : Int)) = true := decide_eq_true c35
                  have c35b1 : decide (100 < l0_3.length) = true := decide_eq_true (by omega)
                  clear c35
                  have H' := Aside0.mk H
                  clear H
                  have hnb36 := NB180_181.out
                  have hnc36 := NB181_180.out
                  have hcz37_0 : w23.cell? ⟨gb180, 0, none⟩ = some (.int .i64 a0_0) := (blk_cell BK180.out 0).trans rfl
                  have hcz37_1 : w23.cell? ⟨gb180, 1, none⟩ = some (.int .i64 a0_1) := (blk_cell BK180.out 1).trans rfl
                  have hcz37_2 : w23.cell? ⟨gb180, 2, none⟩ = some (.slice A0_2 l0_2.length c0_2) := (blk_cell BK180.out 2).trans rfl
                  have hcz37_3 : w23.cell? ⟨gb180, 3, none⟩ = some (.slice A0_3 l0_3.length c0_3) := (blk_cell BK180.out 3).trans rfl
                  have hcz37_4 : w23.cell? ⟨gb180, 4, none⟩ = some (.bool a0_4) := (blk_cell BK180.out 4).trans rfl
                  have hcz37_5 : w23.cell? ⟨gb180, 5, none⟩ = some (.int .i64 a0_5) := (blk_cell BK180.out 5).trans rfl
                  have hcz37_6 : w23.cell? ⟨gb180, 6, none⟩ = some (.int .u32 a0_6) := (blk_cell BK180.out 6).trans rfl
                  have hcz37_7 : w23.cell? ⟨gb180, 7, none⟩ = some (.slice A0_7 l0_7.length c0_7) := (blk_cell BK180.out 7).trans rfl
                  have hcz37_8 : w23.cell? ⟨gb180, 8, none⟩ = some (.int .i64 a0_8) := (blk_cell BK180.out 8).trans rfl
                  have hcz37_9 : w23.cell? ⟨gb180, 9, none⟩ = some (.int .i64 a0_9) := (blk_cell BK180.out 9).trans rfl
                  have hcz37_10 : w23.cell? ⟨gb180, 10, none⟩ = some (.int .i64 a0_10) := (blk_cell BK180.out 10).trans rfl
                  have hfz37_0 := blk_frozen BK180.out 0
                  have hfz37_1 := blk_frozen BK180.out 1
                  have hfz37_2 := blk_frozen BK180.out 2
                  have hfz37_3 := blk_frozen BK180.out 3
                  have hfz37_4 := blk_frozen BK180.out 4
                  have hfz37_5 := blk_frozen BK180.out 5
                  have hfz37_6 := blk_frozen BK180.out 6
                  have hfz37_7 := blk_frozen BK180.out 7
                  have hfz37_8 := blk_frozen BK180.out 8
                  have hfz37_9 := blk_frozen BK180.out 9
                  have hfz37_10 := blk_frozen BK180.out 10
                  go_wp2
                  go_meet
                  case rel => exact ⟨_, (true), (by first | rfl | (simp; done) | (simp [*]; done)), H', ⟨by first | omega | exact Nat.le_refl _⟩, ⟨by (with_reducible repeat (first | refine blk_drewN ?_ _ | refine blk_drew ?_ | refine blk_alloc ?_ _)); exact BK180.out⟩, ⟨by (with_reducible repeat (first | refine blk_drewN ?_ _ | refine blk_drew ?_ | refine blk_alloc ?_ _)); exact BK181.out⟩, ⟨by repeat (first | (with_reducible first | exact HB.out | apply below_alloc | apply pw_below_drewN | apply below_drew1 | refine below_set ?_ GE180.out | refine below_set ?_ GE181.out) | exact HB.out)⟩⟩
                · rw [if_neg c35] at H
                  have c35b0 : decide (100 < (l0_3.length : Int)) = false := decide_eq_false c35
                  have c35b1 : decide (100 < l0_3.length) = false := decide_eq_false (by omega)
                  clear c35
                  have H' := Aside0.mk H
                  clear H
                  have hnb38 := NB180_181.out
                  have hnc38 := NB181_180.out
                  have hcz39_0 : w23.cell? ⟨gb180, 0, none⟩ = some (.int .i64 a0_0) := (blk_cell BK180.out 0).trans rfl
                  have hcz39_1 : w23.cell? ⟨gb180, 1, none⟩ = some (.int .i64 a0_1) := (blk_cell BK180.out 1).trans rfl
                  have hcz39_2 : w23.cell? ⟨gb180, 2, none⟩ = some (.slice A0_2 l0_2.length c0_2) := (blk_cell BK180.out 2).trans rfl
                  have hcz39_3 : w23.cell? ⟨gb180, 3, none⟩ = some (.slice A0_3 l0_3.length c0_3) := (blk_cell BK180.out 3).trans rfl
                  have hcz39_4 : w23.cell? ⟨gb180, 4, none⟩ = some (.bool a0_4) := (blk_cell BK180.out 4).trans rfl
                  have hcz39_5 : w23.cell? ⟨gb180, 5, none⟩ = some (.int .i64 a0_5) := (blk_cell BK180.out 5).trans rfl
                  have hcz39_6 : w23.cell? ⟨gb180, 6, none⟩ = some (.int .u32 a0_6) := (blk_cell BK180.out 6).trans rfl
                  have hcz39_7 : w23.cell? ⟨gb180, 7, none⟩ = some (.slice A0_7 l0_7.length c0_7) := (blk_cell BK180.out 7).trans rfl
                  have hcz39_8 : w23.cell? ⟨gb180, 8, none⟩ = some (.int .i64 a0_8) := (blk_cell BK180.out 8).trans rfl
                  have hcz39_9 : w23.cell? ⟨gb180, 9, none⟩ = some (.int .i64 a0_9) := (blk_cell BK180.out 9).trans rfl
                  have hcz39_10 : w23.cell? ⟨gb180, 10, none⟩ = some (.int .i64 a0_10) := (blk_cell BK180.out 10).trans rfl
                  have hfz39_0 := blk_frozen BK180.out 0
                  have hfz39_1 := blk_frozen BK180.out 1
                  have hfz39_2 := blk_frozen BK180.out 2
                  have hfz39_3 := blk_frozen BK180.out 3
                  have hfz39_4 := blk_frozen BK180.out 4
                  have hfz39_5 := blk_frozen BK180.out 5
                  have hfz39_6 := blk_frozen BK180.out 6
                  have hfz39_7 := blk_frozen BK180.out 7
                  have hfz39_8 := blk_frozen BK180.out 8
                  have hfz39_9 := blk_frozen BK180.out 9
                  have hfz39_10 := blk_frozen BK180.out 10
                  have hcz40_0 : w23.cell? ⟨gb181, 0, none⟩ = some (.bool a0_4) := (blk_cell BK181.out 0).trans rfl
                  have hcz40_1 : w23.cell? ⟨gb181, 1, none⟩ = some (.int .i64 a0_5) := (blk_cell BK181.out 1).trans rfl
                  have hcz40_2 : w23.cell? ⟨gb181, 2, none⟩ = some (.int .u32 a0_6) := (blk_cell BK181.out 2).trans rfl
                  have hcz40_3 : w23.cell? ⟨gb181, 3, none⟩ = some (.slice A0_7 l0_7.length c0_7) := (blk_cell BK181.out 3).trans rfl
                  have hcz40_4 : w23.cell? ⟨gb181, 4, none⟩ = some (.int .i64 a0_8) := (blk_cell BK181.out 4).trans rfl
                  have hcz40_5 : w23.cell? ⟨gb181, 5, none⟩ = some (.int .i64 a0_9) := (blk_cell BK181.out 5).trans rfl
                  have hcz40_6 : w23.cell? ⟨gb181, 6, none⟩ = some (.int .i64 a0_10) := (blk_cell BK181.out 6).trans rfl
                  have hfz40_0 := blk_frozen BK181.out 0
                  have hfz40_1 := blk_frozen BK181.out 1
                  have hfz40_2 := blk_frozen BK181.out 2
                  have hfz40_3 := blk_frozen BK181.out 3
                  have hfz40_4 := blk_frozen BK181.out 4
                  have hfz40_5 := blk_frozen BK181.out 5
                  have hfz40_6 := blk_frozen BK181.out 6
                  go_wp2
                  go_meet
                  case rel => exact ⟨_, (decide ((l0_7.length : Int) > 100)), (by first | rfl | (simp; done) | (simp [*]; done)), H', ⟨by first | omega | exact Nat.le_refl _⟩, ⟨by (with_reducible repeat (first | refine blk_drewN ?_ _ | refine blk_drew ?_ | refine blk_alloc ?_ _)); exact BK180.out⟩, ⟨by (with_reducible repeat (first | refine blk_drewN ?_ _ | refine blk_drew ?_ | refine blk_alloc ?_ _)); exact BK181.out⟩, ⟨by repeat (first | (with_reducible first | exact HB.out | apply below_alloc | apply pw_below_drewN | apply below_drew1 | refine below_set ?_ GE180.out | refine below_set ?_ GE181.out) | exact HB.out)⟩⟩
            · replace c31 := Bool.eq_false_iff.mpr c31
              subst c31
              have H1 : (waystoneref17_Formed.j0 k true a0_0 a0_1 l0_2 l0_3 a0_4 a0_5 a0_6 l0_7 a0_8 a0_9 a0_10) = some r := by rw [if_neg (show ¬ (false = true) by decide)] at H; exact H
              clear H
              have H := H1
              clear H1
              have H' := Aside0.mk H
              clear H
              go_wp2
              go_meet
              case rel => exact ⟨_, (true), (by first | rfl | (simp; done) | (simp [*]; done)), H', ⟨by first | omega | exact Nat.le_refl _⟩, ⟨by (with_reducible repeat (first | refine blk_drewN ?_ _ | refine blk_drew ?_ | refine blk_alloc ?_ _)); exact BK180.out⟩, ⟨by (with_reducible repeat (first | refine blk_drewN ?_ _ | refine blk_drew ?_ | refine blk_alloc ?_ _)); exact BK181.out⟩, ⟨by repeat (first | (with_reducible first | exact HB.out | apply below_alloc | apply pw_below_drewN | apply below_drew1 | refine below_set ?_ GE180.out | refine below_set ?_ GE181.out) | exact HB.out)⟩⟩
          · replace c30 := Bool.eq_false_iff.mpr c30
            subst c30
            have H1 : (waystoneref17_Formed.j0 k true a0_0 a0_1 l0_2 l0_3 a0_4 a0_5 a0_6 l0_7 a0_8 a0_9 a0_10) = some r := by rw [if_neg (show ¬ (false = true) by decide)] at H; exact H
            clear H
            have H := H1
            clear H1
            have H' := Aside0.mk H
            clear H
            go_wp2
            go_meet
            case rel => exact ⟨_, (true), (by first | rfl | (simp; done) | (simp [*]; done)), H', ⟨by first | omega | exact Nat.le_refl _⟩, ⟨by (with_reducible repeat (first | refine blk_drewN ?_ _ | refine blk_drew ?_ | refine blk_alloc ?_ _)); exact BK180.out⟩, ⟨by (with_reducible repeat (first | refine blk_drewN ?_ _ | refine blk_drew ?_ | refine blk_alloc ?_ _)); exact BK181.out⟩, ⟨by repeat (first | (with_reducible first | exact HB.out | apply below_alloc | apply pw_below_drewN | apply below_drew1 | refine below_set ?_ GE180.out | refine below_set ?_ GE181.out) | exact HB.out)⟩⟩
        · replace c29 := Bool.eq_false_iff.mpr c29
          subst c29
          have H1 : (waystoneref17_Formed.j0 k true a0_0 a0_1 l0_2 l0_3 a0_4 a0_5 a0_6 l0_7 a0_8 a0_9 a0_10) = some r := by rw [if_neg (show ¬ (false = true) by decide)] at H; exact H
          clear H
          have H := H1
          clear H1
          have H' := Aside0.mk H
          clear H
          go_wp2
          go_meet
          case rel => exact ⟨_, (true), (by first | rfl | (simp; done) | (simp [*]; done)), H', ⟨by first | omega | exact Nat.le_refl _⟩, ⟨by (with_reducible repeat (first | refine blk_drewN ?_ _ | refine blk_drew ?_ | refine blk_alloc ?_ _)); exact BK180.out⟩, ⟨by (with_reducible repeat (first | refine blk_drewN ?_ _ | refine blk_drew ?_ | refine blk_alloc ?_ _)); exact BK181.out⟩, ⟨by repeat (first | (with_reducible first | exact HB.out | apply below_alloc | apply pw_below_drewN | apply below_drew1 | refine below_set ?_ GE180.out | refine below_set ?_ GE181.out) | exact HB.out)⟩⟩
      · replace c28 := Bool.eq_false_iff.mpr c28
        subst c28
        have H1 : (waystoneref17_Formed.j0 k true a0_0 a0_1 l0_2 l0_3 a0_4 a0_5 a0_6 l0_7 a0_8 a0_9 a0_10) = some r := by rw [if_neg (show ¬ (false = true) by decide)] at H; exact H
        clear H
        have H := H1
        clear H1
        have H' := Aside0.mk H
        clear H
        go_wp2
        go_meet
        case rel => exact ⟨_, (true), (by first | rfl | (simp; done) | (simp [*]; done)), H', ⟨by first | omega | exact Nat.le_refl _⟩, ⟨by (with_reducible repeat (first | refine blk_drewN ?_ _ | refine blk_drew ?_ | refine blk_alloc ?_ _)); exact BK180.out⟩, ⟨by (with_reducible repeat (first | refine blk_drewN ?_ _ | refine blk_drew ?_ | refine blk_alloc ?_ _)); exact BK181.out⟩, ⟨by repeat (first | (with_reducible first | exact HB.out | apply below_alloc | apply pw_below_drewN | apply below_drew1 | refine below_set ?_ GE180.out | refine below_set ?_ GE181.out) | exact HB.out)⟩⟩
    · replace c27 := Bool.eq_false_iff.mpr c27
      subst c27
      have H1 : (waystoneref17_Formed.j0 k true a0_0 a0_1 l0_2 l0_3 a0_4 a0_5 a0_6 l0_7 a0_8 a0_9 a0_10) = some r := by rw [if_neg (show ¬ (false = true) by decide)] at H; exact H
      clear H
      have H := H1
      clear H1
      have H' := Aside0.mk H
      clear H
      go_wp2
      go_meet
      case rel => exact ⟨_, (true), (by first | rfl | (simp; done) | (simp [*]; done)), H', ⟨by first | omega | exact Nat.le_refl _⟩, ⟨by (with_reducible repeat (first | refine blk_drewN ?_ _ | refine blk_drew ?_ | refine blk_alloc ?_ _)); exact BK180.out⟩, ⟨by (with_reducible repeat (first | refine blk_drewN ?_ _ | refine blk_drew ?_ | refine blk_alloc ?_ _)); exact BK181.out⟩, ⟨by repeat (first | (with_reducible first | exact HB.out | apply below_alloc | apply pw_below_drewN | apply below_drew1 | refine below_set ?_ GE180.out | refine below_set ?_ GE181.out) | exact HB.out)⟩⟩
  case rest =>
    clear HC7
    try clear c1
    try clear c2
    try clear p2
    try clear c3
    try clear c4
    try clear c11
    try clear c27
    try clear c28
    try clear c29
    try clear c30
    try clear c31
    try clear c32
    try clear c32b0
    try clear c32b1
    try clear c33
    try clear c35
    try clear c35b0
    try clear c35b1
    try clear c36
    try clear c38
    try clear c40
    try clear hcz12_0
    try clear hcz12_1
    try clear hcz12_2
    try clear hcz12_3
    try clear hcz12_4
    try clear hcz12_5
    try clear hcz12_6
    try clear hcz13_0
    try clear hcz13_1
    try clear hcz13_10
    try clear hcz13_2
    try clear hcz13_3
    try clear hcz13_4
    try clear hcz13_5
    try clear hcz13_6
    try clear hcz13_7
    try clear hcz13_8
    try clear hcz13_9
    try clear hcz17_0
    try clear hcz17_1
    try clear hcz17_10
    try clear hcz17_2
    try clear hcz17_3
    try clear hcz17_4
    try clear hcz17_5
    try clear hcz17_6
    try clear hcz17_7
    try clear hcz17_8
    try clear hcz17_9
    try clear hcz21_0
    try clear hcz21_1
    try clear hcz21_10
    try clear hcz21_2
    try clear hcz21_3
    try clear hcz21_4
    try clear hcz21_5
    try clear hcz21_6
    try clear hcz21_7
    try clear hcz21_8
    try clear hcz21_9
    try clear hcz22_0
    try clear hcz22_1
    try clear hcz22_2
    try clear hcz22_3
    try clear hcz22_4
    try clear hcz22_5
    try clear hcz22_6
    try clear hcz26_0
    try clear hcz26_1
    try clear hcz26_2
    try clear hcz26_3
    try clear hcz26_4
    try clear hcz26_5
    try clear hcz26_6
    try clear hcz34_0
    try clear hcz34_1
    try clear hcz34_10
    try clear hcz34_2
    try clear hcz34_3
    try clear hcz34_4
    try clear hcz34_5
    try clear hcz34_6
    try clear hcz34_7
    try clear hcz34_8
    try clear hcz34_9
    try clear hcz37_0
    try clear hcz37_1
    try clear hcz37_10
    try clear hcz37_2
    try clear hcz37_3
    try clear hcz37_4
    try clear hcz37_5
    try clear hcz37_6
    try clear hcz37_7
    try clear hcz37_8
    try clear hcz37_9
    try clear hcz39_0
    try clear hcz39_1
    try clear hcz39_10
    try clear hcz39_2
    try clear hcz39_3
    try clear hcz39_4
    try clear hcz39_5
    try clear hcz39_6
    try clear hcz39_7
    try clear hcz39_8
    try clear hcz39_9
    try clear hcz40_0
    try clear hcz40_1
    try clear hcz40_2
    try clear hcz40_3
    try clear hcz40_4
    try clear hcz40_5
    try clear hcz40_6
    try clear hcz9_0
    try clear hcz9_1
    try clear hcz9_10
    try clear hcz9_2
    try clear hcz9_3
    try clear hcz9_4
    try clear hcz9_5
    try clear hcz9_6
    try clear hcz9_7
    try clear hcz9_8
    try clear hcz9_9
    try clear hfz12_0
    try clear hfz12_1
    try clear hfz12_2
    try clear hfz12_3
    try clear hfz12_4
    try clear hfz12_5
    try clear hfz12_6
    try clear hfz13_0
    try clear hfz13_1
    try clear hfz13_10
    try clear hfz13_2
    try clear hfz13_3
    try clear hfz13_4
    try clear hfz13_5
    try clear hfz13_6
    try clear hfz13_7
    try clear hfz13_8
    try clear hfz13_9
    try clear hfz17_0
    try clear hfz17_1
    try clear hfz17_10
    try clear hfz17_2
    try clear hfz17_3
    try clear hfz17_4
    try clear hfz17_5
    try clear hfz17_6
    try clear hfz17_7
    try clear hfz17_8
    try clear hfz17_9
    try clear hfz21_0
    try clear hfz21_1
    try clear hfz21_10
    try clear hfz21_2
    try clear hfz21_3
    try clear hfz21_4
    try clear hfz21_5
    try clear hfz21_6
    try clear hfz21_7
    try clear hfz21_8
    try clear hfz21_9
    try clear hfz22_0
    try clear hfz22_1
    try clear hfz22_2
    try clear hfz22_3
    try clear hfz22_4
    try clear hfz22_5
    try clear hfz22_6
    try clear hfz26_0
    try clear hfz26_1
    try clear hfz26_2
    try clear hfz26_3
    try clear hfz26_4
    try clear hfz26_5
    try clear hfz26_6
    try clear hfz34_0
    try clear hfz34_1
    try clear hfz34_10
    try clear hfz34_2
    try clear hfz34_3
    try clear hfz34_4
    try clear hfz34_5
    try clear hfz34_6
    try clear hfz34_7
    try clear hfz34_8
    try clear hfz34_9
    try clear hfz37_0
    try clear hfz37_1
    try clear hfz37_10
    try clear hfz37_2
    try clear hfz37_3
    try clear hfz37_4
    try clear hfz37_5
    try clear hfz37_6
    try clear hfz37_7
    try clear hfz37_8
    try clear hfz37_9
    try clear hfz39_0
    try clear hfz39_1
    try clear hfz39_10
    try clear hfz39_2
    try clear hfz39_3
    try clear hfz39_4
    try clear hfz39_5
    try clear hfz39_6
    try clear hfz39_7
    try clear hfz39_8
    try clear hfz39_9
    try clear hfz40_0
    try clear hfz40_1
    try clear hfz40_2
    try clear hfz40_3
    try clear hfz40_4
    try clear hfz40_5
    try clear hfz40_6
    try clear hfz9_0
    try clear hfz9_1
    try clear hfz9_10
    try clear hfz9_2
    try clear hfz9_3
    try clear hfz9_4
    try clear hfz9_5
    try clear hfz9_6
    try clear hfz9_7
    try clear hfz9_8
    try clear hfz9_9
    obtain ⟨kq, x79_6, rfl, HA, HJ6, BK180, BK181, HB⟩ := hcut
    cases kq with
    | zero => exact absurd HA.out (by simp [waystoneref17_Formed.j0])
    | succ kj6 =>
      have H := HA.out
      clear HA
      simp only [waystoneref17_Formed.j0] at H
      by_cases c41 : x79_6 = true
      · subst c41
        have H1 : (some false) = some r := by rw [if_pos rfl] at H; exact H
        clear H
        have H := H1
        clear H1
        obtain rfl := Option.some.inj H
        go_wp2
        go_ret
        exact ⟨by first | rfl | (simp [errW_none, errW_some] <;> rfl) | (simp [*, errW_none, errW_some] <;> rfl), by repeat (first | (with_reducible first | exact HB.out | apply below_alloc | apply pw_below_drewN | apply below_drew1 | refine below_set ?_ GE180.out | refine below_set ?_ GE181.out) | exact HB.out)⟩
      · replace c41 := Bool.eq_false_iff.mpr c41
        subst c41
        have H1 : (waystoneref17_Formed.l0 kj6 0 a0_0 a0_1 l0_2 l0_3 a0_4 a0_5 a0_6 l0_7 a0_8 a0_9 a0_10) = some r := by rw [if_neg (show ¬ (false = true) by decide)] at H; exact H
        clear H
        have H := H1
        clear H1
        have H' := Aside0.mk H
        clear H
        go_wp2
        go_loopg [9] kj6 (fun kq v9 w' => ∃ (x9_2 : Int), v9 = .int .i64 x9_2 ∧ Aside0 (waystoneref17_Formed.l0 kq x9_2 a0_0 a0_1 l0_2 l0_3 a0_4 a0_5 a0_6 l0_7 a0_8 a0_9 a0_10 = some r) ∧ Aside0 (kq ≤ kj6) ∧ Aside0 (w'.heap[gb180]? = some (.cells #[.int .i64 a0_0, .int .i64 a0_1, (.slice A0_2 l0_2.length c0_2), (.slice A0_3 l0_3.length c0_3), .bool a0_4, .int .i64 a0_5, .int .u32 a0_6, (.slice A0_7 l0_7.length c0_7), .int .i64 a0_8, .int .i64 a0_9, .int .i64 a0_10] 50 (0, 0))) ∧ Aside0 (w'.heap[gb181]? = some (.cells #[.bool a0_4, .int .i64 a0_5, .int .u32 a0_6, (.slice A0_7 l0_7.length c0_7), .int .i64 a0_8, .int .i64 a0_9, .int .i64 a0_10] 48 (0, 0))) ∧ Aside0 (Below w.heap.size w w'))
        case atStart => exact ⟨(0), (by first | rfl | (simp; done) | (simp [*]; done)), H', ⟨Nat.le_refl _⟩, ⟨by (with_reducible repeat (first | refine blk_drewN ?_ _ | refine blk_drew ?_ | refine blk_alloc ?_ _)); exact BK180.out⟩, ⟨by (with_reducible repeat (first | refine blk_drewN ?_ _ | refine blk_drew ?_ | refine blk_alloc ?_ _)); exact BK181.out⟩, ⟨by repeat (first | (with_reducible first | exact HB.out | apply below_alloc | apply pw_below_drewN | apply below_drew1 | refine below_set ?_ GE180.out | refine below_set ?_ GE181.out) | exact HB.out)⟩⟩
        case round =>
          clear H'
          try clear c1
          try clear c2
          try clear p2
          try clear c3
          try clear c4
          try clear c11
          try clear c27
          try clear c28
          try clear c29
          try clear c30
          try clear c31
          try clear c32
          try clear c32b0
          try clear c32b1
          try clear c33
          try clear c35
          try clear c35b0
          try clear c35b1
          try clear c36
          try clear c38
          try clear c40
          try clear c41
          try clear hcz12_0
          try clear hcz12_1
          try clear hcz12_2
          try clear hcz12_3
          try clear hcz12_4
          try clear hcz12_5
          try clear hcz12_6
          try clear hcz13_0
          try clear hcz13_1
          try clear hcz13_10
          try clear hcz13_2
          try clear hcz13_3
          try clear hcz13_4
          try clear hcz13_5
          try clear hcz13_6
          try clear hcz13_7
          try clear hcz13_8
          try clear hcz13_9
          try clear hcz17_0
          try clear hcz17_1
          try clear hcz17_10
          try clear hcz17_2
          try clear hcz17_3
          try clear hcz17_4
          try clear hcz17_5
          try clear hcz17_6
          try clear hcz17_7
          try clear hcz17_8
          try clear hcz17_9
          try clear hcz21_0
          try clear hcz21_1
          try clear hcz21_10
          try clear hcz21_2
          try clear hcz21_3
          try clear hcz21_4
          try clear hcz21_5
          try clear hcz21_6
          try clear hcz21_7
          try clear hcz21_8
          try clear hcz21_9
          try clear hcz22_0
          try clear hcz22_1
          try clear hcz22_2
          try clear hcz22_3
          try clear hcz22_4
          try clear hcz22_5
          try clear hcz22_6
          try clear hcz26_0
          try clear hcz26_1
          try clear hcz26_2
          try clear hcz26_3
          try clear hcz26_4
          try clear hcz26_5
          try clear hcz26_6
          try clear hcz34_0
          try clear hcz34_1
          try clear hcz34_10
          try clear hcz34_2
          try clear hcz34_3
          try clear hcz34_4
          try clear hcz34_5
          try clear hcz34_6
          try clear hcz34_7
          try clear hcz34_8
          try clear hcz34_9
          try clear hcz37_0
          try clear hcz37_1
          try clear hcz37_10
          try clear hcz37_2
          try clear hcz37_3
          try clear hcz37_4
          try clear hcz37_5
          try clear hcz37_6
          try clear hcz37_7
          try clear hcz37_8
          try clear hcz37_9
          try clear hcz39_0
          try clear hcz39_1
          try clear hcz39_10
          try clear hcz39_2
          try clear hcz39_3
          try clear hcz39_4
          try clear hcz39_5
          try clear hcz39_6
          try clear hcz39_7
          try clear hcz39_8
          try clear hcz39_9
          try clear hcz40_0
          try clear hcz40_1
          try clear hcz40_2
          try clear hcz40_3
          try clear hcz40_4
          try clear hcz40_5
          try clear hcz40_6
          try clear hcz9_0
          try clear hcz9_1
          try clear hcz9_10
          try clear hcz9_2
          try clear hcz9_3
          try clear hcz9_4
          try clear hcz9_5
          try clear hcz9_6
          try clear hcz9_7
          try clear hcz9_8
          try clear hcz9_9
          try clear hfz12_0
          try clear hfz12_1
          try clear hfz12_2
          try clear hfz12_3
          try clear hfz12_4
          try clear hfz12_5
          try clear hfz12_6
          try clear hfz13_0
          try clear hfz13_1
          try clear hfz13_10
          try clear hfz13_2
          try clear hfz13_3
          try clear hfz13_4
          try clear hfz13_5
          try clear hfz13_6
          try clear hfz13_7
          try clear hfz13_8
          try clear hfz13_9
          try clear hfz17_0
          try clear hfz17_1
          try clear hfz17_10
          try clear hfz17_2
          try clear hfz17_3
          try clear hfz17_4
          try clear hfz17_5
          try clear hfz17_6
          try clear hfz17_7
          try clear hfz17_8
          try clear hfz17_9
          try clear hfz21_0
          try clear hfz21_1
          try clear hfz21_10
          try clear hfz21_2
          try clear hfz21_3
          try clear hfz21_4
          try clear hfz21_5
          try clear hfz21_6
          try clear hfz21_7
          try clear hfz21_8
          try clear hfz21_9
          try clear hfz22_0
          try clear hfz22_1
          try clear hfz22_2
          try clear hfz22_3
          try clear hfz22_4
          try clear hfz22_5
          try clear hfz22_6
          try clear hfz26_0
          try clear hfz26_1
          try clear hfz26_2
          try clear hfz26_3
          try clear hfz26_4
          try clear hfz26_5
          try clear hfz26_6
          try clear hfz34_0
          try clear hfz34_1
          try clear hfz34_10
          try clear hfz34_2
          try clear hfz34_3
          try clear hfz34_4
          try clear hfz34_5
          try clear hfz34_6
          try clear hfz34_7
          try clear hfz34_8
          try clear hfz34_9
          try clear hfz37_0
          try clear hfz37_1
          try clear hfz37_10
          try clear hfz37_2
          try clear hfz37_3
          try clear hfz37_4
          try clear hfz37_5
          try clear hfz37_6
          try clear hfz37_7
          try clear hfz37_8
          try clear hfz37_9
          try clear hfz39_0
          try clear hfz39_1
          try clear hfz39_10
          try clear hfz39_2
          try clear hfz39_3
          try clear hfz39_4
          try clear hfz39_5
          try clear hfz39_6
          try clear hfz39_7
          try clear hfz39_8
          try clear hfz39_9
          try clear hfz40_0
          try clear hfz40_1
          try clear hfz40_2
          try clear hfz40_3
          try clear hfz40_4
          try clear hfz40_5
          try clear hfz40_6
          try clear hfz9_0
          try clear hfz9_1
          try clear hfz9_10
          try clear hfz9_2
          try clear hfz9_3
          try clear hfz9_4
          try clear hfz9_5
          try clear hfz9_6
          try clear hfz9_7
          try clear hfz9_8
          try clear hfz9_9
          try clear p2
          obtain ⟨x9_2, rfl, HA, HK2, BK180, BK181, HB⟩ := hrel
          cases gk with
          | zero => exact absurd HA.out (by simp [waystoneref17_Formed.l0])
          | succ k2 =>
            have H := HA.out
            clear HA
            simp only [waystoneref17_Formed.l0] at H
            by_cases c42 : x9_2 < (l0_3.length : Int)
            · rw [if_pos c42] at H
              have c42b0 : decide (x9_2 < (l0_3.length : Int)) = true := decide_eq_true c42
              clear c42
              by_cases c43 : 0 ≤ x9_2
              · rw [if_pos c43] at H
                have c43b0 : decide (0 ≤ x9_2) = true := decide_eq_true c43
                clear c43
                replace H := Option.bind_eq_some_iff.mp H
                obtain ⟨t197, A440, H⟩ := H
                replace H : ((waystoneref17_all.f k2 4294967295 t197).bind fun t200 => (if t200 = true then (waystoneref17_Formed.l0 k2 (wrap64 (x9_2 + 1)) a0_0 a0_1 l0_2 l0_3 a0_4 a0_5 a0_6 l0_7 a0_8 a0_9 a0_10) else (some false))) = some r := H
                have A44 := Aside0.mk A440
                clear A440
                replace H := Option.bind_eq_some_iff.mp H
                obtain ⟨t200, A450, H⟩ := H
                replace H : (if t200 = true then (waystoneref17_Formed.l0 k2 (wrap64 (x9_2 + 1)) a0_0 a0_1 l0_2 l0_3 a0_4 a0_5 a0_6 l0_7 a0_8 a0_9 a0_10) else (some false)) = some r := H
                have A45 := Aside0.mk A450
                clear A450
                by_cases c46 : t200 = true
                · subst c46
                  have H1 : (waystoneref17_Formed.l0 k2 (wrap64 (x9_2 + 1)) a0_0 a0_1 l0_2 l0_3 a0_4 a0_5 a0_6 l0_7 a0_8 a0_9 a0_10) = some r := by rw [if_pos rfl] at H; exact H
                  clear H
                  have H := H1
                  clear H1
                  have H' := Aside0.mk H
                  clear H
                  have hnb47 := NB180_181.out
                  have hnc47 := NB181_180.out
                  have hcz48_0 : wr.cell? ⟨gb180, 0, none⟩ = some (.int .i64 a0_0) := (blk_cell BK180.out 0).trans rfl
                  have hcz48_1 : wr.cell? ⟨gb180, 1, none⟩ = some (.int .i64 a0_1) := (blk_cell BK180.out 1).trans rfl
                  have hcz48_2 : wr.cell? ⟨gb180, 2, none⟩ = some (.slice A0_2 l0_2.length c0_2) := (blk_cell BK180.out 2).trans rfl
                  have hcz48_3 : wr.cell? ⟨gb180, 3, none⟩ = some (.slice A0_3 l0_3.length c0_3) := (blk_cell BK180.out 3).trans rfl
                  have hcz48_4 : wr.cell? ⟨gb180, 4, none⟩ = some (.bool a0_4) := (blk_cell BK180.out 4).trans rfl
                  have hcz48_5 : wr.cell? ⟨gb180, 5, none⟩ = some (.int .i64 a0_5) := (blk_cell BK180.out 5).trans rfl
                  have hcz48_6 : wr.cell? ⟨gb180, 6, none⟩ = some (.int .u32 a0_6) := (blk_cell BK180.out 6).trans rfl
                  have hcz48_7 : wr.cell? ⟨gb180, 7, none⟩ = some (.slice A0_7 l0_7.length c0_7) := (blk_cell BK180.out 7).trans rfl
                  have hcz48_8 : wr.cell? ⟨gb180, 8, none⟩ = some (.int .i64 a0_8) := (blk_cell BK180.out 8).trans rfl
                  have hcz48_9 : wr.cell? ⟨gb180, 9, none⟩ = some (.int .i64 a0_9) := (blk_cell BK180.out 9).trans rfl
                  have hcz48_10 : wr.cell? ⟨gb180, 10, none⟩ = some (.int .i64 a0_10) := (blk_cell BK180.out 10).trans rfl
                  have hfz48_0 := blk_frozen BK180.out 0
                  have hfz48_1 := blk_frozen BK180.out 1
                  have hfz48_2 := blk_frozen BK180.out 2
                  have hfz48_3 := blk_frozen BK180.out 3
                  have hfz48_4 := blk_frozen BK180.out 4
                  have hfz48_5 := blk_frozen BK180.out 5
                  have hfz48_6 := blk_frozen BK180.out 6
                  have hfz48_7 := blk_frozen BK180.out 7
                  have hfz48_8 := blk_frozen BK180.out 8
                  have hfz48_9 := blk_frozen BK180.out 9
                  have hfz48_10 := blk_frozen BK180.out 10
                  have p196 : 0 ≤ (x9_2 : Int) := of_decide_eq_true (by first | (with_reducible assumption) | assumption)
                  have q196 : x9_2 < (l0_3.length : Int) := of_decide_eq_true (by first | (with_reducible assumption) | assumption)
                  obtain ⟨ad196, e196, hx196_0, hx196_1, hx196_2, hx196_3, hx196_4, hx196_5, hx196_6⟩ := at_T29 HR0_3.out x9_2 p196 q196
                  cases e196
                  replace hx196_0 := (HB.out.cell (World.block_lt_of_cell? w _ hx196_0)).trans hx196_0
                  replace hx196_1 := (HB.out.cell (World.block_lt_of_cell? w _ hx196_1)).trans hx196_1
                  replace hx196_2 := (HB.out.cell (World.block_lt_of_cell? w _ hx196_2)).trans hx196_2
                  replace hx196_3 := (HB.out.cell (World.block_lt_of_cell? w _ hx196_3)).trans hx196_3
                  replace hx196_4 := (HB.out.cell (World.block_lt_of_cell? w _ hx196_4)).trans hx196_4
                  replace hx196_5 := (HB.out.cell (World.block_lt_of_cell? w _ hx196_5)).trans hx196_5
                  replace hx196_6 := (HB.out.cell (World.block_lt_of_cell? w _ hx196_6)).trans hx196_6
                  replace p196 := eq_true p196
                  replace q196 := eq_true q196
                  go_wp2_with (first | ((with_reducible refine gate_callee (f := 29) rfl ?_); refine goesL_ (some 92) rfl rfl Try.func29 (by kernel_rfl) rfl #[.agg #[.int .i64 ((rd_T29 l0_3 x9_2).f0), .int .i64 ((rd_T29 l0_3 x9_2).f1), .int .i64 ((rd_T29 l0_3 x9_2).f2), .int .i64 ((rd_T29 l0_3 x9_2).f3), .int .u32 ((rd_T29 l0_3 x9_2).f4.f0), .int .u32 ((rd_T29 l0_3 x9_2).f4.f1), .int .i64 ((rd_T29 l0_3 x9_2).f5)]] rfl (by (try simp only [List.map_toArray, List.map_cons, List.map_nil]); first | done | rfl | (simp only [List.length_drop, List.length_take]; rfl)) ?_; (with_reducible refine (waystoneref17_Numbers.calls ((rd_T29 l0_3 x9_2).f0) ((rd_T29 l0_3 x9_2).f1) ((rd_T29 l0_3 x9_2).f2) ((rd_T29 l0_3 x9_2).f3) ((rd_T29 l0_3 x9_2).f4.f0) ((rd_T29 l0_3 x9_2).f4.f1) ((rd_T29 l0_3 x9_2).f5) t197 _ A44.out).mono ?_); rintro e w49 ⟨v198, rfl, ho0, hb⟩; refine ⟨_, rfl, ?_⟩; have n0_ := Aside0.mk (Kd.R_lower ho0 (below_size (by repeat (first | (with_reducible first | exact HB.out | apply below_alloc | apply pw_below_drewN | apply below_drew1 | refine below_set ?_ GE180.out | refine below_set ?_ GE181.out) | exact HB.out)))); have n1_ := Aside0.mk (blk_below (g := gb180) (o := .cells #[.int .i64 a0_0, .int .i64 a0_1, .slice A0_2 l0_2.length c0_2, .slice (some ad196) l0_3.length c0_3, .bool a0_4, .int .i64 a0_5, .int .u32 a0_6, .slice A0_7 l0_7.length c0_7, .int .i64 a0_8, .int .i64 a0_9, .int .i64 a0_10] 50 (0, 0)) (by (with_reducible repeat (first | refine blk_drewN ?_ _ | refine blk_drew ?_ | refine blk_alloc ?_ _)); exact BK180.out) hb); have n2_ := Aside0.mk (blk_below (g := gb181) (o := .cells #[.bool a0_4, .int .i64 a0_5, .int .u32 a0_6, .slice A0_7 l0_7.length c0_7, .int .i64 a0_8, .int .i64 a0_9, .int .i64 a0_10] 48 (0, 0)) (by (with_reducible repeat (first | refine blk_drewN ?_ _ | refine blk_drew ?_ | refine blk_alloc ?_ _)); exact BK181.out) hb); have n3_ := Aside0.mk (below_step (by repeat (first | (with_reducible first | exact HB.out | apply below_alloc | apply pw_below_drewN | apply below_drew1 | refine below_set ?_ GE180.out | refine below_set ?_ GE181.out) | exact HB.out)) hb); clear BK180; clear BK181; clear HB; have HO199 := n0_; have BK180 := n1_; have BK181 := n2_; have HB := n3_; clear n0_ n1_ n2_ n3_; (try clear hb); (try clear hb2); (try clear hk); (try clear hi); (try clear ho0); obtain ⟨Ao50, co50, eo50⟩ := Kd.R_slice HO199.out; subst eo50) | ((with_reducible refine gate_callee (f := 40) rfl ?_); refine goesL_ (some 93) rfl rfl Try.func40 (by kernel_rfl) rfl #[.int .i64 4294967295, .slice Ao50 t197.length co50] rfl (by (try simp only [List.map_toArray, List.map_cons, List.map_nil]); first | done | rfl | (simp only [List.length_drop, List.length_take]; rfl)) ?_; (with_reducible refine (waystoneref17_all.calls k2 4294967295 _ _ t197 true _ ?side1 ?side2 A45.out).mono ?_); (case side1 => repeat (first | exact (Kd.R_reads' HO199.out).2.2 | (with_reducible refine Kd.C_alloc ?_ _) | (with_reducible refine Kd.C_drewN ?_ _) | (with_reducible refine Kd.C_drew ?_))); (case side2 => exact (Kd.R_reads' HO199.out).2.1); rintro e w' ⟨rfl, ⟨nd, rfl⟩⟩; refine ⟨_, rfl, ?_⟩))
                  go_roundg k2
                  case measure => have := HJ6.out; have := HK2.out; omega
                  case rel => exact ⟨(wrap64 (x9_2 + 1)), (by first | rfl | (simp; done) | (simp [*]; done)), H', ⟨by have := HJ6.out; have := HK2.out; omega⟩, ⟨by (with_reducible repeat (first | refine blk_drewN ?_ _ | refine blk_drew ?_ | refine blk_alloc ?_ _)); exact BK180.out⟩, ⟨by (with_reducible repeat (first | refine blk_drewN ?_ _ | refine blk_drew ?_ | refine blk_alloc ?_ _)); exact BK181.out⟩, ⟨by repeat (first | (with_reducible first | exact HB.out | apply below_alloc | apply pw_below_drewN | apply below_drew1 | refine below_set ?_ GE180.out | refine below_set ?_ GE181.out) | exact HB.out)⟩⟩
                · replace c46 := Bool.eq_false_iff.mpr c46
                  subst c46
                  have H1 : (some false) = some r := by rw [if_neg (show ¬ (false = true) by decide)] at H; exact H
                  clear H
                  have H := H1
                  clear H1
                  obtain rfl := Option.some.inj H
                  have hnb51 := NB180_181.out
                  have hnc51 := NB181_180.out
                  have hcz52_0 : wr.cell? ⟨gb180, 0, none⟩ = some (.int .i64 a0_0) := (blk_cell BK180.out 0).trans rfl
                  have hcz52_1 : wr.cell? ⟨gb180, 1, none⟩ = some (.int .i64 a0_1) := (blk_cell BK180.out 1).trans rfl
                  have hcz52_2 : wr.cell? ⟨gb180, 2, none⟩ = some (.slice A0_2 l0_2.length c0_2) := (blk_cell BK180.out 2).trans rfl
                  have hcz52_3 : wr.cell? ⟨gb180, 3, none⟩ = some (.slice A0_3 l0_3.length c0_3) := (blk_cell BK180.out 3).trans rfl
                  have hcz52_4 : wr.cell? ⟨gb180, 4, none⟩ = some (.bool a0_4) := (blk_cell BK180.out 4).trans rfl
                  have hcz52_5 : wr.cell? ⟨gb180, 5, none⟩ = some (.int .i64 a0_5) := (blk_cell BK180.out 5).trans rfl
                  have hcz52_6 : wr.cell? ⟨gb180, 6, none⟩ = some (.int .u32 a0_6) := (blk_cell BK180.out 6).trans rfl
                  have hcz52_7 : wr.cell? ⟨gb180, 7, none⟩ = some (.slice A0_7 l0_7.length c0_7) := (blk_cell BK180.out 7).trans rfl
                  have hcz52_8 : wr.cell? ⟨gb180, 8, none⟩ = some (.int .i64 a0_8) := (blk_cell BK180.out 8).trans rfl
                  have hcz52_9 : wr.cell? ⟨gb180, 9, none⟩ = some (.int .i64 a0_9) := (blk_cell BK180.out 9).trans rfl
                  have hcz52_10 : wr.cell? ⟨gb180, 10, none⟩ = some (.int .i64 a0_10) := (blk_cell BK180.out 10).trans rfl
                  have hfz52_0 := blk_frozen BK180.out 0
                  have hfz52_1 := blk_frozen BK180.out 1
                  have hfz52_2 := blk_frozen BK180.out 2
                  have hfz52_3 := blk_frozen BK180.out 3
                  have hfz52_4 := blk_frozen BK180.out 4
                  have hfz52_5 := blk_frozen BK180.out 5
                  have hfz52_6 := blk_frozen BK180.out 6
                  have hfz52_7 := blk_frozen BK180.out 7
                  have hfz52_8 := blk_frozen BK180.out 8
                  have hfz52_9 := blk_frozen BK180.out 9
                  have hfz52_10 := blk_frozen BK180.out 10
                  have p196 : 0 ≤ (x9_2 : Int) := of_decide_eq_true (by first | (with_reducible assumption) | assumption)
                  have q196 : x9_2 < (l0_3.length : Int) := of_decide_eq_true (by first | (with_reducible assumption) | assumption)
                  obtain ⟨ad196, e196, hx196_0, hx196_1, hx196_2, hx196_3, hx196_4, hx196_5, hx196_6⟩ := at_T29 HR0_3.out x9_2 p196 q196
                  cases e196
                  replace hx196_0 := (HB.out.cell (World.block_lt_of_cell? w _ hx196_0)).trans hx196_0
                  replace hx196_1 := (HB.out.cell (World.block_lt_of_cell? w _ hx196_1)).trans hx196_1
                  replace hx196_2 := (HB.out.cell (World.block_lt_of_cell? w _ hx196_2)).trans hx196_2
                  replace hx196_3 := (HB.out.cell (World.block_lt_of_cell? w _ hx196_3)).trans hx196_3
                  replace hx196_4 := (HB.out.cell (World.block_lt_of_cell? w _ hx196_4)).trans hx196_4
                  replace hx196_5 := (HB.out.cell (World.block_lt_of_cell? w _ hx196_5)).trans hx196_5
                  replace hx196_6 := (HB.out.cell (World.block_lt_of_cell? w _ hx196_6)).trans hx196_6
                  replace p196 := eq_true p196
                  replace q196 := eq_true q196
                  go_wp2_with (first | ((with_reducible refine gate_callee (f := 29) rfl ?_); refine goesL_ (some 92) rfl rfl Try.func29 (by kernel_rfl) rfl #[.agg #[.int .i64 ((rd_T29 l0_3 x9_2).f0), .int .i64 ((rd_T29 l0_3 x9_2).f1), .int .i64 ((rd_T29 l0_3 x9_2).f2), .int .i64 ((rd_T29 l0_3 x9_2).f3), .int .u32 ((rd_T29 l0_3 x9_2).f4.f0), .int .u32 ((rd_T29 l0_3 x9_2).f4.f1), .int .i64 ((rd_T29 l0_3 x9_2).f5)]] rfl (by (try simp only [List.map_toArray, List.map_cons, List.map_nil]); first | done | rfl | (simp only [List.length_drop, List.length_take]; rfl)) ?_; (with_reducible refine (waystoneref17_Numbers.calls ((rd_T29 l0_3 x9_2).f0) ((rd_T29 l0_3 x9_2).f1) ((rd_T29 l0_3 x9_2).f2) ((rd_T29 l0_3 x9_2).f3) ((rd_T29 l0_3 x9_2).f4.f0) ((rd_T29 l0_3 x9_2).f4.f1) ((rd_T29 l0_3 x9_2).f5) t197 _ A44.out).mono ?_); rintro e w53 ⟨v198, rfl, ho0, hb⟩; refine ⟨_, rfl, ?_⟩; have n0_ := Aside0.mk (Kd.R_lower ho0 (below_size (by repeat (first | (with_reducible first | exact HB.out | apply below_alloc | apply pw_below_drewN | apply below_drew1 | refine below_set ?_ GE180.out | refine below_set ?_ GE181.out) | exact HB.out)))); have n1_ := Aside0.mk (blk_below (g := gb180) (o := .cells #[.int .i64 a0_0, .int .i64 a0_1, .slice A0_2 l0_2.length c0_2, .slice (some ad196) l0_3.length c0_3, .bool a0_4, .int .i64 a0_5, .int .u32 a0_6, .slice A0_7 l0_7.length c0_7, .int .i64 a0_8, .int .i64 a0_9, .int .i64 a0_10] 50 (0, 0)) (by (with_reducible repeat (first | refine blk_drewN ?_ _ | refine blk_drew ?_ | refine blk_alloc ?_ _)); exact BK180.out) hb); have n2_ := Aside0.mk (blk_below (g := gb181) (o := .cells #[.bool a0_4, .int .i64 a0_5, .int .u32 a0_6, .slice A0_7 l0_7.length c0_7, .int .i64 a0_8, .int .i64 a0_9, .int .i64 a0_10] 48 (0, 0)) (by (with_reducible repeat (first | refine blk_drewN ?_ _ | refine blk_drew ?_ | refine blk_alloc ?_ _)); exact BK181.out) hb); have n3_ := Aside0.mk (below_step (by repeat (first | (with_reducible first | exact HB.out | apply below_alloc | apply pw_below_drewN | apply below_drew1 | refine below_set ?_ GE180.out | refine below_set ?_ GE181.out) | exact HB.out)) hb); clear BK180; clear BK181; clear HB; have HO199 := n0_; have BK180 := n1_; have BK181 := n2_; have HB := n3_; clear n0_ n1_ n2_ n3_; (try clear hb); (try clear hb2); (try clear hk); (try clear hi); (try clear ho0); obtain ⟨Ao54, co54, eo54⟩ := Kd.R_slice HO199.out; subst eo54) | ((with_reducible refine gate_callee (f := 40) rfl ?_); refine goesL_ (some 93) rfl rfl Try.func40 (by kernel_rfl) rfl #[.int .i64 4294967295, .slice Ao54 t197.length co54] rfl (by (try simp only [List.map_toArray, List.map_cons, List.map_nil]); first | done | rfl | (simp only [List.length_drop, List.length_take]; rfl)) ?_; (with_reducible refine (waystoneref17_all.calls k2 4294967295 _ _ t197 false _ ?side1 ?side2 A45.out).mono ?_); (case side1 => repeat (first | exact (Kd.R_reads' HO199.out).2.2 | (with_reducible refine Kd.C_alloc ?_ _) | (with_reducible refine Kd.C_drewN ?_ _) | (with_reducible refine Kd.C_drew ?_))); (case side2 => exact (Kd.R_reads' HO199.out).2.1); rintro e w' ⟨rfl, ⟨nd, rfl⟩⟩; refine ⟨_, rfl, ?_⟩))
                  go_ret
                  exact ⟨by first | rfl | (simp [errW_none, errW_some] <;> rfl) | (simp [*, errW_none, errW_some] <;> rfl), by repeat (first | (with_reducible first | exact HB.out | apply below_alloc | apply pw_below_drewN | apply below_drew1 | refine below_set ?_ GE180.out | refine below_set ?_ GE181.out) | exact HB.out)⟩
              · rw [if_neg c43] at H
                exact absurd H (by simp)
            · rw [if_neg c42] at H
              have c42b0 : decide (x9_2 < (l0_3.length : Int)) = false := decide_eq_false c42
              clear c42
              obtain rfl := Option.some.inj H
              have hnb55 := NB180_181.out
              have hnc55 := NB181_180.out
              have hcz56_0 : wr.cell? ⟨gb180, 0, none⟩ = some (.int .i64 a0_0) := (blk_cell BK180.out 0).trans rfl
              have hcz56_1 : wr.cell? ⟨gb180, 1, none⟩ = some (.int .i64 a0_1) := (blk_cell BK180.out 1).trans rfl
              have hcz56_2 : wr.cell? ⟨gb180, 2, none⟩ = some (.slice A0_2 l0_2.length c0_2) := (blk_cell BK180.out 2).trans rfl
              have hcz56_3 : wr.cell? ⟨gb180, 3, none⟩ = some (.slice A0_3 l0_3.length c0_3) := (blk_cell BK180.out 3).trans rfl
              have hcz56_4 : wr.cell? ⟨gb180, 4, none⟩ = some (.bool a0_4) := (blk_cell BK180.out 4).trans rfl
              have hcz56_5 : wr.cell? ⟨gb180, 5, none⟩ = some (.int .i64 a0_5) := (blk_cell BK180.out 5).trans rfl
              have hcz56_6 : wr.cell? ⟨gb180, 6, none⟩ = some (.int .u32 a0_6) := (blk_cell BK180.out 6).trans rfl
              have hcz56_7 : wr.cell? ⟨gb180, 7, none⟩ = some (.slice A0_7 l0_7.length c0_7) := (blk_cell BK180.out 7).trans rfl
              have hcz56_8 : wr.cell? ⟨gb180, 8, none⟩ = some (.int .i64 a0_8) := (blk_cell BK180.out 8).trans rfl
              have hcz56_9 : wr.cell? ⟨gb180, 9, none⟩ = some (.int .i64 a0_9) := (blk_cell BK180.out 9).trans rfl
              have hcz56_10 : wr.cell? ⟨gb180, 10, none⟩ = some (.int .i64 a0_10) := (blk_cell BK180.out 10).trans rfl
              have hfz56_0 := blk_frozen BK180.out 0
              have hfz56_1 := blk_frozen BK180.out 1
              have hfz56_2 := blk_frozen BK180.out 2
              have hfz56_3 := blk_frozen BK180.out 3
              have hfz56_4 := blk_frozen BK180.out 4
              have hfz56_5 := blk_frozen BK180.out 5
              have hfz56_6 := blk_frozen BK180.out 6
              have hfz56_7 := blk_frozen BK180.out 7
              have hfz56_8 := blk_frozen BK180.out 8
              have hfz56_9 := blk_frozen BK180.out 9
              have hfz56_10 := blk_frozen BK180.out 10
              go_wp2
              go_ret
              exact ⟨by first | rfl | (simp [errW_none, errW_some] <;> rfl) | (simp [*, errW_none, errW_some] <;> rfl), by repeat (first | (with_reducible first | exact HB.out | apply below_alloc | apply pw_below_drewN | apply below_drew1 | refine below_set ?_ GE180.out | refine below_set ?_ GE181.out) | exact HB.out)⟩
end Go.Proofs.Ytpaknjmcjblahaa.P
