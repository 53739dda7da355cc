/- A request's bytes: walked (the document's). -/
import Derived.Test.YtpaknjmcjblahaaAWirJ
import Derived.Test.YtpaknjmcjblahaaAWir8
import Derived.Deep.RegionHeld3
namespace Go.Proofs.Ytpaknjmcjblahaa.H
open Go.RowKit Go.Proofs.Ytpaknjmcjblahaa.P Go.Proofs.YtpaknjmcjblahaaW.PrintWords Go.Proofs.YtpaknjmcjblahaaW.PrintLast Go.Proofs.YtpaknjmcjblahaaW.PrintMore
set_option linter.unusedVariables false
set_option linter.unusedSimpArgs false
set_option maxRecDepth 20000
theorem putT_len (s : ByteArray) (h : s.size ≤ 40) : (putT s).length ≤ 100 := by
  unfold putT
  have := put_length s.size (by omega)
  rw [List.length_append, bytesOf_len]; omega
theorem R_ne2 {d : Kd Int} {base : Nat} {W : World} {v : Value} {xs : List Int} {g t : Nat} {cs : Array Value} (hR : d.R 5 W base (fun _ => True) v xs) (hb : W.heap[g]? = some (.cells cs t (0, 0))) (ht : 5 ≠ t) : some g ≠ v.ownBlock := Kd.R_ne hR hb ht
theorem refwput_lit (ns L : List Int) (hn : ∀ x ∈ ns, 0 ≤ x ∧ x < 9223372036854775808) (hs : ns.length ≤ 1000) (hL : putL ns = L) (W : World) :
    Calls Try.prog 26 #[.slice (some ⟨W.heap.size, 0, none⟩) ns.length ns.length] (W.alloc (.cells (ns.map (Value.int .i64)).toArray 3)) fun e w' => ∃ v, e = .returned v ∧ Kd.R (Kd.int .u8) 5 w' W.heap.size (fun _ => True) v L ∧ Below W.heap.size W w' := by
  have hb := (Below.refl W.heap.size W).alloc (Nat.le_refl _) (.cells (ns.map (Value.int .i64)).toArray 3)
  refine (refwput_any _ ns.length ns _ (litC ns hs W) (Nat.le_refl _) (by omega) hn).mono ?_
  rintro e w' ⟨v, rfl, h, hb2⟩
  rw [hL] at h
  exact ⟨v, rfl, Kd.R_lower h hb.size, hb.trans (hb2.mono hb.size)⟩
set_option maxHeartbeats 8000000 in
theorem refenc_any (r : Rq) (hu : okRq r) (w : World) :
    Calls Try.prog 11 #[.agg #[.int .i64 r.k, .int .i64 r.s, .string r.nm, .int .i64 r.ek, .int .i64 r.ru.f0, .int .i64 r.ru.f1, .int .i64 r.ru.f2, .int .i64 r.ru.f3, .int .u32 r.ru.f4.f0, .int .u32 r.ru.f4.f1, .int .i64 r.ru.f5, .int .i64 r.qk, .int .i64 r.qa, .int .i64 r.qb, .int .i64 r.qw, .int .u32 r.qf, .int .u32 r.qt, .string r.qo]] w fun e w' => (∃ v, e = .returned (.tuple #[v, .int .i64 (encOut r).2]) ∧ Kd.R (Kd.int .u8) 5 w' w.heap.size (fun _ => True) v (encOut r).1) ∧ Below w.heap.size w w' := by
  have CR := Aside0.mk (fun W => refright_any r hu W)
  have HO := Aside0.mk (show encOut r = if rightQ r = true then (encL r, 0) else ([], 171) from rfl)
  have HF := Aside0.mk (fun h : rightQ r = true => form_of h)
  have CP := Aside0.mk (fun W => part_any r.k W)
  have eF : wrap64 r.qf = r.qf := by have := hu.2.1; unfold wrap64; omega
  have eT : wrap64 r.qt = r.qt := by have := hu.2.2; unfold wrap64; omega
  have eF2 : IntKind.i64.wrap r.qf = r.qf := by have := hu.2.1; rw [IntKind.wrap_i64]; omega
  have eT2 : IntKind.i64.wrap r.qt = r.qt := by have := hu.2.2; rw [IntKind.wrap_i64]; omega
  have HU := Aside0.mk hu
  clear hu
  generalize encOut r = OUT at *
  have HB := Aside0.mk ((Below.refl w.heap.size w).alloc (Nat.le_refl _) (.cells #[.int .i64 r.k, .int .i64 r.s, .string r.nm, .int .i64 r.ek, .int .i64 r.ru.f0, .int .i64 r.ru.f1, .int .i64 r.ru.f2, .int .i64 r.ru.f3, .int .u32 r.ru.f4.f0, .int .u32 r.ru.f4.f1, .int .i64 r.ru.f5, .int .i64 r.qk, .int .i64 r.qa, .int .i64 r.qb, .int .i64 r.qw, .int .u32 r.qf, .int .u32 r.qt, .string r.qo] 36))
  have HX := Aside0.mk (show RqAt (w.alloc (.cells #[.int .i64 r.k, .int .i64 r.s, .string r.nm, .int .i64 r.ek, .int .i64 r.ru.f0, .int .i64 r.ru.f1, .int .i64 r.ru.f2, .int .i64 r.ru.f3, .int .u32 r.ru.f4.f0, .int .u32 r.ru.f4.f1, .int .i64 r.ru.f5, .int .i64 r.qk, .int .i64 r.qa, .int .i64 r.qb, .int .i64 r.qw, .int .u32 r.qf, .int .u32 r.qt, .string r.qo] 36)) w.heap.size r from blk_new w _)
  go_enter Try.func11, Try.ntmps11
  try dsimp only
  repeat ((fail_if_success (show Code.wp _ (Code.seq (Code.region 1 _ _) _) _ _ _)); (first | go_values | go_skip | go_guarded | go_step | go_upon | go_back))
  generalize (w.alloc (.cells #[.int .i64 r.k, .int .i64 r.s, .string r.nm, .int .i64 r.ek, .int .i64 r.ru.f0, .int .i64 r.ru.f1, .int .i64 r.ru.f2, .int .i64 r.ru.f3, .int .u32 r.ru.f4.f0, .int .u32 r.ru.f4.f1, .int .i64 r.ru.f5, .int .i64 r.qk, .int .i64 r.qa, .int .i64 r.qb, .int .i64 r.qw, .int .u32 r.qf, .int .u32 r.qt, .string r.qo] 36)) = W0 at *
  try dsimp only
  repeat ((fail_if_success (show Oper.wp _ (Oper.mk _ (Op.load 36 _) _ _ _ _) _ _ _ _)); (first | go_values | go_skip | go_guarded | go_step | go_upon | go_back))
  refine wp_load_row HX.out rfl rfl Try.underlying36 rfl (by kernel_rfl) ?_
  try go_simp
  go_wp2_with fail
  refine (CR.out W0).mono ?_
  rintro e W1 ⟨rfl, hb⟩
  replace HX := Aside0.mk (HX.out.below hb)
  replace HB := Aside0.mk (HB.out.trans (hb.mono HB.out.size))
  clear hb CR
  cases hq : rightQ r with
  | false =>
    replace HO := Aside0.mk (HO.out.trans (if_neg (by rw [hq]; simp)))
    clear hq HF CP
    go_wp2_with fail
    go_ret2
    exact ⟨⟨_, by rw [HO.out]; rfl, by rw [HO.out]; exact Kd.R_nil _ _ _ _ _⟩, HB.out⟩
  | true =>
    have F := HF.out hq
    replace HO := Aside0.mk (HO.out.trans (if_pos hq))
    have HFF := Aside0.mk F
    have hks := Aside0.mk (show ∀ x ∈ [r.k, r.s], 0 ≤ x ∧ x < 9223372036854775808 from by
      have h1 := F.k; have h2 := F.s; unfold inB at h1 h2
      intro x hx; simp only [List.mem_cons, List.not_mem_nil, or_false] at hx
      rcases hx with rfl | rfl <;> omega)
    have HN2 := Aside0.mk (show (putN r.k ++ putN r.s).length ≤ 18 from by
      have h1 := F.k; have h2 := F.s; unfold inB at h1 h2
      have := putN_len r.k (by omega); have := putN_len r.s (by omega); rw [List.length_append]; omega)
    clear hq HF F
    have P1 := Aside0.mk (show ∀ W : World, Calls Try.prog 26 #[.slice (some ⟨W.heap.size, 0, none⟩) 2 2] (W.alloc (.cells #[.int .i64 r.k, .int .i64 r.s] 3)) (fun e w' => ∃ v, e = .returned v ∧ Kd.R (Kd.int .u8) 5 w' W.heap.size (fun _ => True) v (putN r.k ++ putN r.s) ∧ Below W.heap.size W w') from fun W => refwput_lit [r.k, r.s] (putN r.k ++ putN r.s) hks.out (by simp) (putL2 _ _) W)
    have HE := Aside0.mk (show encL r = (putN r.k ++ putN r.s) ++ (if partK r.k = 1 then putT r.nm else if partK r.k = 2 then putN r.ek ++ putRu r.ru else if partK r.k = 3 then putN r.qk ++ (putN r.qa ++ (putN r.qb ++ (putN r.qw ++ (putN r.qf ++ (putN r.qt ++ putT r.qo))))) else []) from by unfold encL; rw [List.append_assoc])
    generalize putN r.k ++ putN r.s = L1 at *
    obtain ⟨y0, y1, y2, y3, y4, y5, y6, y7, y8, y9, y10, y11, y12, y13, y14, y15, y16, y17⟩ := HX.out.cells
    go_wp2_with fail
    refine (P1.out W1).mono ?_
    rintro e W2 ⟨v2, rfl, hR2, hb⟩
    obtain ⟨A2, c2, rfl⟩ := Kd.R_slice hR2
    replace HX := Aside0.mk (HX.out.below hb)
    have HR2 := Aside0.mk (Kd.R_lower hR2 HB.out.size)
    replace HB := Aside0.mk (HB.out.trans (hb.mono HB.out.size))
    clear hb hR2 P1 y0 y1 y2 y3 y4 y5 y6 y7 y8 y9 y10 y11 y12 y13 y14 y15 y16 y17
    obtain ⟨y0, y1, y2, y3, y4, y5, y6, y7, y8, y9, y10, y11, y12, y13, y14, y15, y16, y17⟩ := HX.out.cells
    go_wp2_with fail
    refine (CP.out W2).mono ?_
    rintro e W3 ⟨rfl, hb⟩
    replace HX := Aside0.mk (HX.out.below hb)
    replace HB := Aside0.mk (HB.out.trans (hb.mono HB.out.size))
    replace HR2 := Aside0.mk (Kd.R_below HR2.out hb)
    clear hb CP y0 y1 y2 y3 y4 y5 y6 y7 y8 y9 y10 y11 y12 y13 y14 y15 y16 y17
    obtain ⟨y0, y1, y2, y3, y4, y5, y6, y7, y8, y9, y10, y11, y12, y13, y14, y15, y16, y17⟩ := HX.out.cells
    rcases partK_4 r.k with hp | hp | hp | hp
    · replace HE := Aside0.mk (show encL r = L1 from by rw [HE.out, hp]; simp)
      rw [hp]
      go_wp2_with fail
      go_ret2
      exact ⟨⟨_, by rw [HO.out]; rfl, by rw [HO.out, HE.out]; exact HR2.out⟩, HB.out⟩
    · replace HE := Aside0.mk (show encL r = L1 ++ putT r.nm from by rw [HE.out, hp]; simp)
      rw [hp]
      have PT := Aside0.mk (reftext_R r.nm W3 (by have := HFF.out.nm; omega))
      have HTL := Aside0.mk (show (putT r.nm).length ≤ 100 from putT_len r.nm HFF.out.nm)
      go_wp2_with fail
      refine PT.out.mono ?_
      rintro e W4 ⟨v4, rfl, hR, hb⟩
      obtain ⟨A4, c4, rfl⟩ := Kd.R_slice hR
      have HRT := Aside0.mk hR
      replace HR2 := Aside0.mk (Kd.R_below HR2.out hb)
      replace HX := Aside0.mk (HX.out.below hb)
      replace HB := Aside0.mk (HB.out.trans (hb.mono HB.out.size))
      clear hb hR PT y0 y1 y2 y3 y4 y5 y6 y7 y8 y9 y10 y11 y12 y13 y14 y15 y16 y17
      go_wp2_with ((with_reducible refine gate_builtin (b := .append) (xs := #[.tmp 22, .tmp 25]) rfl ?_); at_builtin; refine Kd.R_append_rows (Kd.int .u8) (w0 := w) w.heap.size rfl (.tmp 22) (.tmp 25) 37 5 (.int .u8 0) 1 rfl Try.underlying37 info5 rfl (by decide) (by omega) (.slice A2 L1.length c2) L1 (putT r.nm) _ _ _ (fun _ => True) (fun _ => False) rfl rfl HR2.out (Kd.R_reads' HRT.out).2.2 (fun _ _ h => h) (fun _ h => h.elim) (fun _ _ => trivial) HB.out HB.out.size (by have := HN2.out; have := HTL.out; omega) ?_; intro v5 w5 ho hb hg hat; have HR5 := Aside0.mk ho; have HB5 := Aside0.mk hb; have HX5 := Aside0.mk ((show RqAt _ w.heap.size r from blk_grown HX.out hg (R_ne2 HR2.out HX.out (by decide)))); clear ho hb hg hat)
      go_ret2
      exact ⟨⟨_, by rw [HO.out]; rfl, by rw [HO.out, HE.out]; exact HR5.out⟩, HB5.out⟩
    · replace HE := Aside0.mk (show encL r = (L1 ++ putN r.ek) ++ putL (numsR r.ru) from by rw [HE.out, hp]; simp [putRu])
      rw [hp]
      have hek := HFF.out.ek
      have hru := HFF.out.ru
      unfold inB at hek
      have P2 := Aside0.mk (show ∀ W : World, Calls Try.prog 26 #[.slice (some ⟨W.heap.size, 0, none⟩) 1 1] (W.alloc (.cells #[.int .i64 r.ek] 3)) (fun e w' => ∃ v, e = .returned v ∧ Kd.R (Kd.int .u8) 5 w' W.heap.size (fun _ => True) v (putN r.ek) ∧ Below W.heap.size W w') from fun W => refwput_lit [r.ek] (putN r.ek) (by intro x hx; simp only [List.mem_singleton] at hx; subst hx; omega) (by simp) (by simp [putL]) W)
      have HEL := Aside0.mk (putN_len r.ek (by omega))
      have HNL := Aside0.mk (show (putL (numsR r.ru)).length ≤ 63 from putRu_len hru)
      have PN := Aside0.mk (show ∀ W : World, Calls Try.prog 29 #[.agg #[.int .i64 r.ru.f0, .int .i64 r.ru.f1, .int .i64 r.ru.f2, .int .i64 r.ru.f3, .int .u32 r.ru.f4.f0, .int .u32 r.ru.f4.f1, .int .i64 r.ru.f5]] W (fun e w' => (∃ A c, e = .returned (.slice A 7 c) ∧ 7 ≤ c ∧ Kd.C (Kd.int .i64) w' A 7 (numsR r.ru)) ∧ Below W.heap.size W w') from fun W => refnums_any r.ru HU.out.1 W)
      have P3 := Aside0.mk (show ∀ (B : Option Addr) (d : Nat) (W : World), Kd.C (Kd.int .i64) W B 7 (numsR r.ru) → 7 ≤ d → Calls Try.prog 26 #[.slice B 7 d] W (fun e w' => ∃ v, e = .returned v ∧ Kd.R (Kd.int .u8) 5 w' W.heap.size (fun _ => True) v (putL (numsR r.ru)) ∧ Below W.heap.size W w') from fun B d W h3 h4 => refwput_any B d (numsR r.ru) W h3 h4 (by simp [numsR]) (numsR_ok hru))
      clear hek hru
      generalize putL (numsR r.ru) = LN at *
      generalize putN r.ek = LE at *
      go_wp2_with fail
      refine (P2.out W3).mono ?_
      rintro e W4 ⟨v4, rfl, hR, hb⟩
      obtain ⟨A4, c4, rfl⟩ := Kd.R_slice hR
      have HRT := Aside0.mk hR
      replace HR2 := Aside0.mk (Kd.R_below HR2.out hb)
      replace HX := Aside0.mk (HX.out.below hb)
      replace HB := Aside0.mk (HB.out.trans (hb.mono HB.out.size))
      clear hb hR P2 y0 y1 y2 y3 y4 y5 y6 y7 y8 y9 y10 y11 y12 y13 y14 y15 y16 y17
      go_wp2_with (first | ((with_reducible refine gate_builtin (b := .append) (xs := #[.tmp 29, .tmp 34]) rfl ?_); at_builtin; refine Kd.R_append_rows (Kd.int .u8) (w0 := w) w.heap.size rfl (.tmp 29) (.tmp 34) 37 5 (.int .u8 0) 1 rfl Try.underlying37 info5 rfl (by decide) (by omega) (.slice A2 L1.length c2) L1 LE _ _ _ (fun _ => True) (fun _ => False) rfl rfl HR2.out (Kd.R_reads' HRT.out).2.2 (fun _ _ h => h) (fun _ h => h.elim) (fun _ _ => trivial) HB.out HB.out.size (by have := HN2.out; have := HEL.out; omega) ?_; intro v5 w5 ho hb hg hat; have HR5 := Aside0.mk ho; have HB5 := Aside0.mk hb; have HX5 := Aside0.mk ((show RqAt _ w.heap.size r from blk_grown HX.out hg (R_ne2 HR2.out HX.out (by decide)))); clear ho hb hg hat; have hL5 := Aside0.mk (show (L1 ++ LE).length ≤ 100 from by rw [List.length_append]; have := HN2.out; have := HEL.out; omega); generalize L1 ++ LE = L5 at *; obtain ⟨A5, c5, rfl⟩ := Kd.R_slice HR5.out; obtain ⟨y0, y1, y2, y3, y4, y5, y6, y7, y8, y9, y10, y11, y12, y13, y14, y15, y16, y17⟩ := HX5.out.cells))
      refine (PN.out _).mono ?_
      rintro e W6 ⟨⟨A6, c6, rfl, h6, hC6⟩, hb⟩
      have HR6 := Aside0.mk (Kd.R_below HR5.out hb)
      have HX6 := Aside0.mk (HX5.out.below hb)
      have HB6 := Aside0.mk (HB5.out.trans (hb.mono HB5.out.size))
      have HC6 := Aside0.mk hC6
      have H6 := Aside0.mk h6
      clear hb hC6 h6 PN y0 y1 y2 y3 y4 y5 y6 y7 y8 y9 y10 y11 y12 y13 y14 y15 y16 y17
      go_wp2_with fail
      refine (P3.out A6 c6 W6 HC6.out H6.out).mono ?_
      rintro e W7 ⟨v7, rfl, hR, hb⟩
      obtain ⟨A7, c7, rfl⟩ := Kd.R_slice hR
      have HRT7 := Aside0.mk hR
      have HR7 := Aside0.mk (Kd.R_below HR6.out hb)
      replace HX := Aside0.mk (HX6.out.below hb)
      replace HB := Aside0.mk (HB6.out.trans (hb.mono HB6.out.size))
      clear hb hR P3
      go_wp2_with ((with_reducible refine gate_builtin (b := .append) (xs := #[.tmp 36, .tmp 41]) rfl ?_); at_builtin; refine Kd.R_append_rows (Kd.int .u8) (w0 := w) w.heap.size rfl (.tmp 36) (.tmp 41) 37 5 (.int .u8 0) 1 rfl Try.underlying37 info5 rfl (by decide) (by omega) (.slice A5 L5.length c5) L5 LN _ _ _ (fun _ => True) (fun _ => False) rfl rfl HR7.out (Kd.R_reads' HRT7.out).2.2 (fun _ _ h => h) (fun _ h => h.elim) (fun _ _ => trivial) HB.out HB.out.size (by have := hL5.out; have := HNL.out; omega) ?_; intro v8 w8 ho hb hg hat; have HR8 := Aside0.mk ho; have HB8 := Aside0.mk hb; have HX8 := Aside0.mk ((show RqAt _ w.heap.size r from blk_grown HX.out hg (R_ne2 HR7.out HX.out (by decide)))); clear ho hb hg hat)
      go_ret2
      exact ⟨⟨_, by rw [HO.out]; rfl, by rw [HO.out, HE.out]; exact HR8.out⟩, HB8.out⟩
    · replace HE := Aside0.mk (show encL r = (L1 ++ putL [r.qk, r.qa, r.qb, r.qw, r.qf, r.qt]) ++ putT r.qo from by rw [HE.out, hp]; simp [putL])
      rw [hp]
      have b1 := HFF.out.qk; have b2 := HFF.out.qa; have b3 := HFF.out.qb; have b4 := HFF.out.qw; have b5 := HU.out.2.1; have b6 := HU.out.2.2
      unfold inB at b1 b2 b3 b4
      have hok : ∀ x ∈ [r.qk, r.qa, r.qb, r.qw, r.qf, r.qt], 0 ≤ x ∧ x < 9223372036854775808 := by
        intro x hx; simp only [List.mem_cons, List.not_mem_nil, or_false] at hx
        rcases hx with rfl | rfl | rfl | rfl | rfl | rfl <;> omega
      have hpl := putL_len [r.qk, r.qa, r.qb, r.qw, r.qf, r.qt] (fun x hx => by have := hok x hx; omega)
      clear b1 b2 b3 b4 b5 b6
      have P2 := Aside0.mk (show ∀ W : World, Calls Try.prog 26 #[.slice (some ⟨W.heap.size, 0, none⟩) 6 6] (W.alloc (.cells #[.int .i64 r.qk, .int .i64 r.qa, .int .i64 r.qb, .int .i64 r.qw, .int .i64 r.qf, .int .i64 r.qt] 3)) (fun e w' => ∃ v, e = .returned v ∧ Kd.R (Kd.int .u8) 5 w' W.heap.size (fun _ => True) v (putL [r.qk, r.qa, r.qb, r.qw, r.qf, r.qt]) ∧ Below W.heap.size W w') from fun W => refwput_lit [r.qk, r.qa, r.qb, r.qw, r.qf, r.qt] (putL [r.qk, r.qa, r.qb, r.qw, r.qf, r.qt]) hok (by simp) rfl W)
      have HQL := Aside0.mk (show (putL [r.qk, r.qa, r.qb, r.qw, r.qf, r.qt]).length ≤ 54 from by simpa using hpl)
      clear hok hpl
      generalize putL [r.qk, r.qa, r.qb, r.qw, r.qf, r.qt] = LQ at *
      have PT := Aside0.mk (fun W => reftext_R r.qo W (by have := HFF.out.qo; omega))
      have HTL := Aside0.mk (show (putT r.qo).length ≤ 100 from putT_len r.qo HFF.out.qo)
      generalize putT r.qo = LT at *
      try dsimp only
      repeat ((fail_if_success (show Code.wp _ (Code.seq (Code.region 13 _ _) _) _ _ _)); (first | go_values | go_skip | go_guarded | go_step | go_upon | go_back))
      have hbq := (Below.refl W3.heap.size W3).alloc (Nat.le_refl _) (.cells #[.int .i64 r.qk, .int .i64 r.qa, .int .i64 r.qb, .int .i64 r.qw, .int .u32 r.qf, .int .u32 r.qt, .string r.qo] 34)
      have KQ := Aside0.mk (blk_new W3 (.cells #[.int .i64 r.qk, .int .i64 r.qa, .int .i64 r.qb, .int .i64 r.qw, .int .u32 r.qf, .int .u32 r.qt, .string r.qo] 34))
      have HR2q := Aside0.mk (Kd.R_below HR2.out hbq)
      have HBq := Aside0.mk (HB.out.trans (hbq.mono HB.out.size))
      have hW3 := Aside0.mk (show w.heap.size ≤ W3.heap.size from HB.out.size)
      clear hbq y0 y1 y2 y3 y4 y5 y6 y7 y8 y9 y10 y11 y12 y13 y14 y15 y16 y17 HB HR2
      generalize (W3.alloc (.cells #[.int .i64 r.qk, .int .i64 r.qa, .int .i64 r.qb, .int .i64 r.qw, .int .u32 r.qf, .int .u32 r.qt, .string r.qo] 34)) = W4 at *
      have z0 := blk_cell KQ.out 0
      have z1 := blk_cell KQ.out 1
      have z2 := blk_cell KQ.out 2
      have z3 := blk_cell KQ.out 3
      have z4 := blk_cell KQ.out 4
      have z5 := blk_cell KQ.out 5
      go_wp2_with fail
      refine (P2.out W4).mono ?_
      rintro e W5 ⟨v5, rfl, hR, hb⟩
      obtain ⟨A5, c5, rfl⟩ := Kd.R_slice hR
      have HRT := Aside0.mk hR
      have HR2 := Aside0.mk (Kd.R_below HR2q.out hb)
      replace KQ := Aside0.mk (blk_below KQ.out hb)
      have HB := Aside0.mk (HBq.out.trans (hb.mono HBq.out.size))
      replace HX := Aside0.mk KQ.out
      clear hb hR P2 z0 z1 z2 z3 z4 z5 HBq HR2q
      have KNE := Aside0.mk (R_ne2 HR2.out KQ.out (by decide))
      go_wp2_with (first | ((with_reducible refine gate_builtin (b := .append) (xs := #[.tmp 47, .tmp 65]) rfl ?_); at_builtin; refine Kd.R_append_rows (Kd.int .u8) (w0 := w) w.heap.size rfl (.tmp 47) (.tmp 65) 37 5 (.int .u8 0) 1 rfl Try.underlying37 info5 rfl (by decide) (by omega) (.slice A2 L1.length c2) L1 LQ _ _ _ (fun _ => True) (fun _ => False) rfl rfl HR2.out (Kd.R_reads' HRT.out).2.2 (fun _ _ h => h) (fun _ h => h.elim) (fun _ _ => trivial) HB.out HB.out.size (by have := HN2.out; have := HQL.out; omega) ?_; intro v6 w6 ho hb hg hat; have HR6 := Aside0.mk ho; have HB6 := Aside0.mk hb; have KQ6 := Aside0.mk (blk_grown KQ.out hg KNE.out); clear ho hb hg hat; have z6 := blk_cell KQ6.out 6))
      refine (PT.out _).mono ?_
      rintro e W7 ⟨v7, rfl, hR, hb⟩
      obtain ⟨A7, c7, rfl⟩ := Kd.R_slice hR
      obtain ⟨A6, c6, rfl⟩ := Kd.R_slice HR6.out
      have HRT7 := Aside0.mk hR
      have HR7 := Aside0.mk (Kd.R_below HR6.out hb)
      have HB7 := Aside0.mk (HB6.out.trans (hb.mono HB6.out.size))
      clear hb hR PT z6
      have hL5 := Aside0.mk (show (L1 ++ LQ).length ≤ 100 from by rw [List.length_append]; have := HN2.out; have := HQL.out; omega)
      generalize L1 ++ LQ = L5 at *
      go_wp2_with ((with_reducible refine gate_builtin (b := .append) (xs := #[.tmp 67, .tmp 70]) rfl ?_); at_builtin; refine Kd.R_append_rows (Kd.int .u8) (w0 := w) w.heap.size rfl (.tmp 67) (.tmp 70) 37 5 (.int .u8 0) 1 rfl Try.underlying37 info5 rfl (by decide) (by omega) (.slice A6 L5.length c6) L5 LT _ _ _ (fun _ => True) (fun _ => False) rfl rfl HR7.out (Kd.R_reads' HRT7.out).2.2 (fun _ _ h => h) (fun _ h => h.elim) (fun _ _ => trivial) HB7.out HB7.out.size (by have := hL5.out; have := HTL.out; omega) ?_; intro v8 w8 ho hb hg hat; have HR8 := Aside0.mk ho; have HB8 := Aside0.mk hb; clear ho hb hg hat)
      go_ret2
      exact ⟨⟨_, by rw [HO.out]; rfl, by rw [HO.out, HE.out]; exact HR8.out⟩, HB8.out⟩
end Go.Proofs.Ytpaknjmcjblahaa.H
