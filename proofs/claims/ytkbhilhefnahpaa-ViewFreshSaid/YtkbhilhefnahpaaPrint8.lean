import Derived.Test.YtkbhilhefnahpaaPrint0
import Derived.Test.YtkbhilhefnahpaaPrint2
namespace Go.Proofs.Ytkbhilhefnahpaa.Print
open Go.RowKit Go.Proofs.YtkbhilhefnahpaaW.PrintWords Go.Proofs.YtkbhilhefnahpaaW.PrintLast Go.Proofs.YtkbhilhefnahpaaW.PrintMore
attribute [local go_sem] max2_int min2_int max_two min_two max_three min_three max_four min_four   -- for this text's walks alone
set_option linter.unusedVariables false
set_option linter.unusedSimpArgs false

/-! ### plan_Block: function 57 -/
def plan_Block.f (k : Nat) (a0 : Int) : Option (Int × Int) := (plan_first.f k 5 a0).bind fun bt219 => (some (bt219.1, bt219.2))
set_option maxHeartbeats 8000000 in
set_option maxRecDepth 100000 in
theorem plan_Block.calls (k : Nat) (a0 : Int) (r1 : Int) (r2 : Int) (w : World) (h : plan_Block.f k a0 = some (r1, r2)) :
    Calls Try.prog 57 #[.int .i64 a0] w fun e w' => e = .returned (.tuple #[.int .i64 r1, .int .i64 r2]) ∧ Below w.heap.size w w' := by
  have HB := Aside0.mk (Below.refl w.heap.size w)
  have H : ((plan_first.f k 5 a0).bind fun bt219 => (some (bt219.1, bt219.2))) = some (r1, r2) := h
  clear h
  replace H := Option.bind_eq_some_iff.mp H
  obtain ⟨⟨t219, t220⟩, A20, H⟩ := H
  replace H : (some (t219, t220)) = some (r1, r2) := H
  have A2 := Aside0.mk A20
  clear A20
  simp only [Option.some.injEq, Prod.mk.injEq] at H
  obtain ⟨rfl, rfl⟩ := H
  go_enter Try.func57, Try.ntmps57
  go_wp2_with (first | ((with_reducible refine gate_callee (f := 63) rfl ?_); refine goesL_ (some 5) rfl rfl Try.func63 (by kernel_rfl) rfl #[.int .i64 5, .int .i64 a0] rfl (by (try simp only [List.map_toArray, List.map_cons, List.map_nil]); first | done | rfl | (simp only [List.length_drop, List.length_take]; rfl)) ?_; (with_reducible refine (plan_first.calls k 5 a0 t219 t220 _ A2.out).mono ?_); rintro e w3 ⟨rfl, hb⟩; refine ⟨_, rfl, ?_⟩; have n0_ := Aside0.mk (below_step (by repeat (first | (with_reducible first | exact HB.out | apply below_alloc | apply pw_below_drewN | apply below_drew1) | exact HB.out)) hb); clear HB; have HB := n0_; clear n0_; (try clear hb); (try clear hb2); (try clear hk); (try clear hi)))
  go_ret2
  exact ⟨by first | rfl | (simp [errW_none, errW_some] <;> rfl) | (simp [*, errW_none, errW_some] <;> rfl), by repeat (first | (with_reducible first | exact HB.out | apply below_alloc | apply pw_below_drewN | apply below_drew1) | exact HB.out)⟩

/-! ### escritoirelaw08_Op_kind: function 39 -/
/-! ### escritoireref05_What: function 78 -/
/-! ### escritoireref05_Open: function 64 -/
/-! ### escritoireref06_None: function 79 -/
/-! ### escritoireref06_block: function 98 -/
end Go.Proofs.Ytkbhilhefnahpaa.Print
