/- Infinities; means of windows of one; a number less itself. -/
import Derived.Test.YtngncegokmppiaaFloMU
namespace Go.Proofs.Ytngncegokmppiaa.Flo
open Go Go.RowKit Go.Proofs.Ytngncegokmppiaa.Reg Go.Proofs.YtngncegokmppiaaW.PrintWords Go.Proofs.YtngncegokmppiaaW.PrintLast Go.Proofs.YtngncegokmppiaaW.PrintMore
set_option linter.unusedVariables false
set_option linter.unusedSimpArgs false
theorem store_float (w : World) (a : Addr) (x : Nat) (m : Mode) : (store a (.float .f64 x) m).run Try.prog w = stored Try.prog w a (.float .f64 x) m := run_store Try.prog w a _ m rfl
theorem wf_lt {x : Nat} (h : (Lit.float .f64 x).wf = true) : x < 18446744073709551616 := by
  simpa [Lit.wf] using h
theorem frombits_run (w : World) (n : Nat) : (callFunc 47 #[.int .u64 n]).run Try.prog w = .ok (.value (.float .f64 n)) w := by
  rw [run_callFunc_extern (e := Extern.MathFloatBits.float64frombits) Try.func47 (by kernel_rfl) (by kernel_rfl) (by kernel_rfl) (by kernel_rfl)]
  rfl
theorem mask_rg (x : Nat) : IntKind.u64.wrap (((BitVec.ofInt 64 (x : Int)) &&& ~~~(BitVec.ofInt 64 9223372036854775808)).toNat : Int) = (rg x : Int) := by
  have e : (~~~(BitVec.ofInt 64 9223372036854775808)).toNat = 2 ^ 63 - 1 := by decide
  rw [BitVec.toNat_and, e, Nat.and_two_pow_sub_one_eq_mod, BitVec.ofInt_natCast, BitVec.toNat_ofNat]
  have : x % 2 ^ 64 % 2 ^ 63 = rg x := by unfold rg; omega
  rw [this]
  have := rg_lt x
  unfold IntKind.wrap
  simp [IntKind.signed, IntKind.bits]
  omega
theorem run_mask (w : World) (t : TypeId) (x : Nat) : (binOp .andNot t (.int .u64 x) (.int .u64 9223372036854775808)).run Try.prog w = .ok (.int .u64 (rg x)) w := by
  rw [← mask_rg x]
  rfl
section
variable {ops : Array Oper} {rest : List Oper} {o : Oper} {a : Act} {Q : Exit → Act → World → Prop} {W : World}
theorem mask_event (hgd : o.guard = none) {N : Tmp} (hd : o.dst = some N) {t t' : TypeId} {xo yo : Operand} (ho : o.op = Op.binOp .andNot t xo yo t') {x : Nat} (hx : a.eval xo = .int .u64 x) (hy : a.eval yo = .int .u64 9223372036854775808)
    (h : wpList Try.prog ops Q rest (a.put o.dst (.int .u64 (rg x))) W) : wpList Try.prog ops Q (o :: rest) a W := by
  refine Kd.event_run hgd (v := .int .u64 (rg x)) (w1 := W) ?_ h
  unfold execOp
  simp only [ho, hx, hy]
  simp [eqGuard, run_mask]
end
theorem Abs_calls (w : World) (x : Nat) : Calls Try.prog 40 #[.float .f64 x] w fun e w' => e = .returned (.float .f64 (rg x)) ∧ w = w' := by
  have hb := bits_run
  have hf := frombits_run
  go_enter Try.func40, Try.ntmps40
  go_wp2_with (first
    | ((with_reducible refine gate_dst (N := 5) rfl ?_); refine mask_event rfl (N := 5) rfl rfl rfl rfl ?_))
  go_ret
  exact ⟨rfl, rfl⟩
theorem rg_big : isN 9218868437227405311 = false ∧ kk 9218868437227405311 = 9218868437227405311 := by decide
theorem inf_gt (x : Nat) : (FloatKind.f64.format.order (rg x) 9218868437227405311 == some Ordering.gt) = decide (rg x = 9218868437227405312) := by
  have hl := rg_lt x
  have hr : rg (rg x) = rg x := by unfold rg; omega
  have hg : ng (rg x) = false := by
    unfold ng
    rw [show rg x / 9223372036854775808 = 0 by omega]
    rfl
  cases hn : isN (rg x) with
  | true =>
    have h2 := ord_nan hn 9218868437227405311
    unfold ord at h2
    rw [show FloatKind.f64.format.order (rg x) 9218868437227405311 = none from h2]
    rw [isN_rg, hr] at hn
    have := of_decide_eq_true hn
    rw [decide_eq_false (by omega)]
    rfl
  | false =>
    rw [ord_gt hn rg_big.1, rg_big.2]
    rw [isN_rg, hr] at hn
    have := of_decide_eq_false hn
    unfold kk sg
    rw [hg, hr]
    simp only [Bool.false_eq_true, if_false]
    exact decide_eq_decide.2 (by omega)
theorem IsInf_calls (w : World) (x : Nat) : Calls Try.prog 28 #[.float .f64 x, .int .i64 0] w fun e w' => e = .returned (.bool (decide (rg x = 9218868437227405312))) ∧ w = w' := by
  rw [← inf_gt]
  go_enter Try.func28, Try.ntmps28
  go_wp2_with (go_at_call 40; refine (Abs_calls _ x).mono ?_; rintro e w1 ⟨rfl, rfl⟩)
  go_ret
  exact ⟨rfl, rfl⟩
theorem IsInf_as (w : World) (x : Nat) (b : Bool) (h : decide (rg x = 9218868437227405312) = b) : Calls Try.prog 28 #[.float .f64 x, .int .i64 0] w fun e w' => e = .returned (.bool b) ∧ w = w' := by
  rw [← h]
  exact IsInf_calls w x
end Go.Proofs.Ytngncegokmppiaa.Flo
