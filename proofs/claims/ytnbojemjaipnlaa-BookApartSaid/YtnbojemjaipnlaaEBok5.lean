/- Bok5. -/
import Derived.Test.YtnbojemjaipnlaaEBok4
namespace Go.Proofs.Ytnbojemjaipnlaa.H
open Go.RowKit Go.Proofs.Ytnbojemjaipnlaa.P Go.Proofs.YtnbojemjaipnlaaW.PrintWords Go.Proofs.YtnbojemjaipnlaaW.PrintLast Go.Proofs.YtnbojemjaipnlaaW.PrintMore
set_option linter.unusedVariables false
set_option linter.unusedSimpArgs false
set_option maxRecDepth 20000
theorem wpList_drop18 {P : Program} (w : World) {ops : Array Oper} {rest : List Oper} {o : Oper} {a : Act} {Q : Exit → Act → World → Prop} (hgd : o.guard = none) (m x : Operand) (t k : TypeId)
    (hop : o.op = Op.call { callee := Callee.builtin Builtin.delete, args := #[m, x], argTypes := #[t, k] }) (vm vx : Value) (hm : a.eval m = vm) (hx : a.eval x = vx) {post : World → Prop}
    (hr : ∃ w', (Builtin.delete_ #[t, k] o.type #[vm, vx]).run P w = .ok (.tuple #[]) w' ∧ post w') (h : ∀ w', post w' → wpList P ops Q rest (a.put o.dst (.tuple #[])) w') : wpList P ops Q (o :: rest) a w := by
  refine wpList_plain hgd fun K' hK' => ?_
  obtain ⟨w', hrun, r1⟩ := hr
  unfold Oper.wp
  simp [execOp, hop, resolve, invoke, builtin, hm, hx, hrun, Result.andThen]
  exact hK' _ _ (h w' r1)
def closeM (M : List (Int × Ses)) (n : Int) : List (Int × Ses) := match lookM M n with | none => M | some s => delM M n
set_option maxHeartbeats 4000000 in
theorem close_any (hb g : Nat) (M : List (Int × Ses)) (n : Int) (w : World) (h : BookAt w hb g M) (hn : i64 n) :
    Calls Try.prog 19 #[.pointer (some ⟨hb, 0, none⟩), .int .i64 n] w (Does w hb g (closeM M n) (.int .i64 (errF (lookM M n)))) := by
  have HF := Aside0.mk (find_any hb g M n w h hn)
  have H := Aside0.mk h
  have HN := Aside0.mk hn
  have hu := Try.underlying66
  have hu2 := Try.underlying64
  clear h hn
  unfold closeM
  cases hl : lookM M n with
  | none =>
    rw [hl] at HF
    have hf := HF.out
    rw [show errF none = 181 from rfl] at hf ⊢
    have HF := Aside0.mk hf
    clear hl hf
    go_enter Try.func19, Try.ntmps19
    go_wp2_with fail
    refine HF.out.mono ?_
    rintro e w2 ⟨v, rfl, hf, hb2⟩
    obtain rfl := hf.none_
    have HB2 := Aside0.mk hb2
    clear hf hb2
    go_wp2_with fail
    go_ret
    have hb3 := HB2.out.alloc HB2.out.size (.cells #[.string ⟨#[]⟩, .slice none 0 0] 66)
    exact ⟨rfl, H.out.below hb3, ButS.of hb3⟩
  | some s =>
    rw [hl] at HF
    have hf := HF.out
    rw [show errF (some s) = 0 from rfl] at hf ⊢
    have HF := Aside0.mk hf
    clear hl hf
    go_enter Try.func19, Try.ntmps19
    go_wp2_with fail
    refine HF.out.mono ?_
    rintro e w2 ⟨v, rfl, hf, hb2⟩
    obtain ⟨A, c, rfl, hc, hr⟩ := hf.some_
    have HB2 := Aside0.mk hb2
    clear hf hb2 hc hr
    have hb3 := HB2.out.alloc HB2.out.size (.cells #[.string s.1, .slice A s.2.length c] 66)
    have h3 := H.out.below hb3
    have hc0 := h3.cell
    have HST := Aside0.mk (fun ty => h3.drop HN.out ty)
    have HB3 := Aside0.mk hb3
    clear hb3 h3
    go_wp2_with (refine wpList_drop18 _ rfl (.tmp 19) (.tmp 20) MapT 3 rfl (.map (some g)) (.int .i64 n) rfl rfl (HST.out _) ?_; rintro w4 ⟨hk, hb4⟩)
    have HK := Aside0.mk hk
    have HU := Aside0.mk ((ButS.of HB3.out).trans hb4)
    clear hk hb4
    go_wp2_with fail
    go_ret
    exact ⟨rfl, HK.out, HU.out⟩
def switchM (M : List (Int × Ses)) (n : Int) (br : ByteArray) : List (Int × Ses) × Int := match lookM M n with | none => (M, 181) | some s => if 0 < s.2.length then (M, 162) else (putM M n (br, []), 0)
set_option maxHeartbeats 4000000 in
theorem switch_any (hb g : Nat) (M : List (Int × Ses)) (n : Int) (br : ByteArray) (w : World) (h : BookAt w hb g M) (hn : i64 n) (hm : M.length ≤ 1000) :
    Calls Try.prog 20 #[.pointer (some ⟨hb, 0, none⟩), .int .i64 n, .string br] w (Does w hb g (switchM M n br).1 (.int .i64 (switchM M n br).2)) := by
  have HF := Aside0.mk (find_any hb g M n w h hn)
  have H := Aside0.mk h
  have HN := Aside0.mk hn
  have HM := Aside0.mk hm
  have hu := Try.underlying66
  have hu2 := Try.underlying64
  clear h hn hm
  unfold switchM
  cases hl : lookM M n with
  | none =>
    rw [hl] at HF
    have hf := HF.out
    rw [show errF none = 181 from rfl] at hf
    have HF := Aside0.mk hf
    clear hl hf
    go_enter Try.func20, Try.ntmps20
    go_wp2_with fail
    refine HF.out.mono ?_
    rintro e w2 ⟨v, rfl, hf, hb2⟩
    obtain rfl := hf.none_
    have HB2 := Aside0.mk hb2
    clear hf hb2
    go_wp2_with fail
    go_ret
    have hb3 := HB2.out.alloc HB2.out.size (.cells #[.string ⟨#[]⟩, .slice none 0 0] 66)
    exact ⟨rfl, H.out.below hb3, ButS.of hb3⟩
  | some s =>
    rw [hl] at HF
    have hf := HF.out
    rw [show errF (some s) = 0 from rfl] at hf
    have HF := Aside0.mk hf
    clear hl hf
    dsimp only
    by_cases hp : 0 < s.2.length
    · rw [if_pos hp]
      go_enter Try.func20, Try.ntmps20
      go_wp2_with fail
      refine HF.out.mono ?_
      rintro e w2 ⟨v, rfl, hf, hb2⟩
      obtain ⟨A, c, rfl, hc, hr⟩ := hf.some_
      have HB2 := Aside0.mk hb2
      clear hf hb2 hc hr
      go_wp2_with fail
      go_ret
      have hb3 := HB2.out.alloc HB2.out.size (.cells #[.string s.1, .slice A s.2.length c] 66)
      exact ⟨rfl, H.out.below hb3, ButS.of hb3⟩
    · rw [if_neg hp]
      go_enter Try.func20, Try.ntmps20
      go_wp2_with fail
      refine HF.out.mono ?_
      rintro e w2 ⟨v, rfl, hf, hb2⟩
      obtain ⟨A, c, rfl, hc, hr⟩ := hf.some_
      have HB2 := Aside0.mk hb2
      clear hf hb2 hc hr
      have hb3 := HB2.out.alloc HB2.out.size (.cells #[.string s.1, .slice A s.2.length c] 66)
      have h3 := H.out.below hb3
      have hc0 := h3.cell
      obtain ⟨w4, hst, hbk, hbut⟩ := h3.store HN.out HM.out (ses_nil _ br)
      have HK := Aside0.mk hbk
      have HU := Aside0.mk ((ButS.of hb3).trans hbut)
      clear hb3 h3 hbk hbut
      go_wp2_with fail
      go_ret
      exact ⟨rfl, HK.out, HU.out⟩
end Go.Proofs.Ytnbojemjaipnlaa.H
