/- Floats in order: cmp.Compare, gauge.Compare. -/
import Derived.Handy
import Derived.Laws.Externs
import Derived.Test.YtngncegokmppiaaPrint0
import Derived.Test.YtngncegokmppiaaFloB
namespace Go.Proofs.Ytngncegokmppiaa.Flo
open Go Go.RowKit Go.Proofs.YtngncegokmppiaaW.PrintWords Go.Proofs.YtngncegokmppiaaW.PrintLast Go.Proofs.YtngncegokmppiaaW.PrintMore
set_option linter.unusedVariables false
set_option linter.unusedSimpArgs false
def ord (x y : Nat) : Option Ordering := D.order x y
theorem ord_nan {x : Nat} (h : isN x = true) (y : Nat) : ord x y = none := by
  obtain ⟨s, t, hd⟩ := isN_read h
  unfold ord Ieee.Format.order
  rw [show D.read x = _ from hd]
  rfl
theorem ord_self (x : Nat) : (ord x x == some .eq) = !isN x := by
  cases h : isN x with
  | true => rw [ord_nan h]; rfl
  | false =>
    unfold isN at h
    unfold ord Ieee.Format.order
    cases hd : D.read x with
    | number s m i => simp [Ieee.Datum.order]
    | infinity s => simp [Ieee.Datum.order]
    | nan s t => rw [hd] at h; cases h
theorem isNaN_calls (w : World) (x : Nat) : Calls Try.prog 41 #[.float .f64 x] w fun e w' => e = .returned (.bool (isN x)) ∧ w = w' := by
  have h := ord_self x
  go_enter Try.func41, Try.ntmps41
  go_wp2
  go_ret
  refine ⟨?_, rfl⟩
  show Ending.returned (.bool (FloatKind.f64.format.order x x != some Ordering.eq)) = _
  have e : (FloatKind.f64.format.order x x != some Ordering.eq) = isN x := by
    show (!(ord x x == some .eq)) = isN x
    rw [h, Bool.not_not]
  rw [e]
theorem isNaN_as (w : World) (x : Nat) (b : Bool) (h : isN x = b) : Calls Try.prog 41 #[.float .f64 x] w fun e w' => e = .returned (.bool b) ∧ w = w' := by
  rw [← h]
  exact isNaN_calls w x
def ccmp (x y : Nat) : Int := if isN x then (if isN y then 0 else -1) else if isN y then 1 else if FloatKind.f64.format.order x y == some Ordering.lt then -1 else if FloatKind.f64.format.order x y == some Ordering.gt then 1 else 0
set_option maxHeartbeats 1000000 in
theorem cCmp_calls (w : World) (x y : Nat) : Calls Try.prog 29 #[.float .f64 x, .float .f64 y] w fun e w' => e = .returned (.int .i64 (ccmp x y)) ∧ w = w' := by
  unfold ccmp
  cases hx : isN x <;> cases hy : isN y
  · have HX := Aside0.mk hx
    have HY := Aside0.mk hy
    cases hl : (FloatKind.f64.format.order x y == some Ordering.lt) <;> cases hg : (FloatKind.f64.format.order x y == some Ordering.gt) <;> (
      clear hx hy
      go_enter Try.func29, Try.ntmps29
      go_wp2_with (first
        | (go_at_call 41; refine (isNaN_as _ x false HX.out).mono ?_; rintro e w1 ⟨rfl, rfl⟩)
        | (go_at_call 41; refine (isNaN_as _ y false HY.out).mono ?_; rintro e w1 ⟨rfl, rfl⟩))
      go_ret
      exact ⟨rfl, rfl⟩)
  · have HX := Aside0.mk hx
    have HY := Aside0.mk hy
    clear hx hy
    go_enter Try.func29, Try.ntmps29
    go_wp2_with (first
      | (go_at_call 41; refine (isNaN_as _ x false HX.out).mono ?_; rintro e w1 ⟨rfl, rfl⟩)
      | (go_at_call 41; refine (isNaN_as _ y true HY.out).mono ?_; rintro e w1 ⟨rfl, rfl⟩))
    go_ret
    exact ⟨rfl, rfl⟩
  · have HX := Aside0.mk hx
    have HY := Aside0.mk hy
    clear hx hy
    go_enter Try.func29, Try.ntmps29
    go_wp2_with (first
      | (go_at_call 41; refine (isNaN_as _ x true HX.out).mono ?_; rintro e w1 ⟨rfl, rfl⟩)
      | (go_at_call 41; refine (isNaN_as _ y false HY.out).mono ?_; rintro e w1 ⟨rfl, rfl⟩))
    go_ret
    exact ⟨rfl, rfl⟩
  · have HX := Aside0.mk hx
    have HY := Aside0.mk hy
    clear hx hy
    go_enter Try.func29, Try.ntmps29
    go_wp2_with (first
      | (go_at_call 41; refine (isNaN_as _ x true HX.out).mono ?_; rintro e w1 ⟨rfl, rfl⟩)
      | (go_at_call 41; refine (isNaN_as _ y true HY.out).mono ?_; rintro e w1 ⟨rfl, rfl⟩))
    go_ret
    exact ⟨rfl, rfl⟩
theorem bits_run (w : World) (x : Nat) : (callFunc 37 #[.float .f64 x]).run Try.prog w = .ok (.value (.int .u64 x)) w := by
  rw [run_callFunc_extern (e := Extern.MathFloatBits.float64bits) Try.func37 (by kernel_rfl) (by kernel_rfl) (by kernel_rfl) (by kernel_rfl)]
  rfl
def sgn (x : Nat) : Bool := decide (wrap64 (x : Int) < 0)
theorem Signbit_calls (w : World) (x : Nat) : Calls Try.prog 30 #[.float .f64 x] w fun e w' => e = .returned (.bool (sgn x)) ∧ w = w' := by
  have hb := bits_run
  go_enter Try.func30, Try.ntmps30
  go_wp2
  go_ret
  exact ⟨rfl, rfl⟩
theorem Signbit_as (w : World) (x : Nat) (b : Bool) (h : sgn x = b) : Calls Try.prog 30 #[.float .f64 x] w fun e w' => e = .returned (.bool b) ∧ w = w' := by
  rw [← h]
  exact Signbit_calls w x
def cmpF (a b : Nat) : Int := if (ccmp a b != 0) || (FloatKind.f64.format.order a 0 != some Ordering.eq) then ccmp a b else if sgn a == sgn b then 0 else if sgn a then -1 else 1
theorem cCmp_as (w : World) (x y : Nat) (c : Int) (h : ccmp x y = c) : Calls Try.prog 29 #[.float .f64 x, .float .f64 y] w fun e w' => e = .returned (.int .i64 c) ∧ w = w' := by
  rw [← h]
  exact cCmp_calls w x y
set_option maxHeartbeats 1000000 in
theorem gCmp_calls (w : World) (a b : Nat) : Calls Try.prog 11 #[.float .f64 a, .float .f64 b] w fun e w' => e = .returned (.int .i64 (cmpF a b)) ∧ w = w' := by
  unfold cmpF
  obtain ⟨c, hc⟩ : ∃ c, ccmp a b = c := ⟨_, rfl⟩
  rw [hc]
  have HC := Aside0.mk hc
  clear hc
  cases h0 : (c != 0)
  · cases h1 : (FloatKind.f64.format.order a 0 != some Ordering.eq)
    · obtain ⟨s, hs⟩ : ∃ s, sgn a = s := ⟨_, rfl⟩
      obtain ⟨u, hu⟩ : ∃ u, sgn b = u := ⟨_, rfl⟩
      rw [hs, hu]
      have HA := Aside0.mk hs
      have HB := Aside0.mk hu
      clear hs hu
      cases s <;> cases u <;> (
        go_enter Try.func11, Try.ntmps11
        go_wp2_with (first
          | (go_at_call 29; refine (cCmp_as _ a b c HC.out).mono ?_; rintro e w1 ⟨rfl, rfl⟩)
          | (go_at_call 30; refine (Signbit_as _ a _ HA.out).mono ?_; rintro e w1 ⟨rfl, rfl⟩)
          | (go_at_call 30; refine (Signbit_as _ b _ HB.out).mono ?_; rintro e w1 ⟨rfl, rfl⟩))
        go_ret
        exact ⟨rfl, rfl⟩)
    · go_enter Try.func11, Try.ntmps11
      go_wp2_with (go_at_call 29; refine (cCmp_as _ a b c HC.out).mono ?_; rintro e w1 ⟨rfl, rfl⟩)
      go_ret
      exact ⟨rfl, rfl⟩
  · go_enter Try.func11, Try.ntmps11
    go_wp2_with (go_at_call 29; refine (cCmp_as _ a b c HC.out).mono ?_; rintro e w1 ⟨rfl, rfl⟩)
    go_ret
    exact ⟨rfl, rfl⟩
theorem gCmp_as (w : World) (x y : Nat) (c : Int) (h : cmpF x y = c) : Calls Try.prog 11 #[.float .f64 x, .float .f64 y] w fun e w' => e = .returned (.int .i64 c) ∧ w = w' := by
  rw [← h]
  exact gCmp_calls w x y
end Go.Proofs.Ytngncegokmppiaa.Flo
