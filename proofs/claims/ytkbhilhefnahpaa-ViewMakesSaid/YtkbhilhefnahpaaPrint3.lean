import Derived.Test.YtkbhilhefnahpaaPrint0
import Derived.Test.YtkbhilhefnahpaaPrint2
namespace Go.Proofs.Ytkbhilhefnahpaa.Print
open Go.RowKit Go.Proofs.YtkbhilhefnahpaaW.PrintWords Go.Proofs.YtkbhilhefnahpaaW.PrintLast Go.Proofs.YtkbhilhefnahpaaW.PrintMore
attribute [local go_sem] Zd Zc ZF ZE yV yU Zk Zj   -- for this text's walks alone
set_option linter.unusedVariables false
set_option linter.unusedSimpArgs false

/-! ### plan_Open: function 22 -/
def plan_Open.f (k : Nat) (a0 : Int) : Option (Bool) := (plan_What.f k a0).bind fun Jb => (if Jb.1 = 2 then (some true) else (if Jb.1 = 3 then (some true) else (some (Jb.1 == 5))))
set_option maxHeartbeats 8000000 in
set_option maxRecDepth 100000 in
theorem plan_Open.calls (k : Nat) (a0 : Int) (r : Bool) (w : World) (h : plan_Open.f k a0 = some r) :
  Calls Try.prog 22 #[.int .i64 a0] w fun e w' => e = .returned (.bool r) ∧ Below w.heap.size w w' := by
 have HB := ze.mk (Below.refl w.heap.size w)
 have H : ((plan_What.f k a0).bind fun Jb => (if Jb.1 = 2 then (some true) else (if Jb.1 = 3 then (some true) else (some (Jb.1 == 5))))) = some r := h
 clear h
 replace H := Option.bind_eq_some_iff.mp H
 obtain ⟨⟨Ja, t148⟩, A20, H⟩ := H
 replace H : (if Ja = 2 then (some true) else (if Ja = 3 then (some true) else (some (Ja == 5)))) = some r := H
 have A2 := ze.mk A20
 clear A20
 by_cases c3 : Ja = 2
 ·rw [if_pos c3] at H
  have c3b0 : (Ja == 2) = true := beq_iff_eq.mpr c3
  have c3b1 : (Ja != 2) = false := bne_eq_false_iff_eq.mpr c3
  clear c3
  obtain rfl := Option.some.inj H
  go_enter Try.func22, Try.ntmps22
  go_wp2_with (first | ((with_reducible refine zM (f := 53) rfl ?_); refine yl (some 7) rfl rfl Try.func53 (by kernel_rfl) rfl #[.int .i64 a0] rfl (by (try simp only [List.map_toArray, List.map_cons, List.map_nil]); first | done | rfl | (simp only [List.length_drop, List.length_take]; rfl)) ?_; (with_reducible refine (plan_What.calls k a0 Ja t148 _ A2.o).mono ?_); rintro e w4 ⟨rfl, hb⟩; refine ⟨_, rfl, ?_⟩; have n0_ := ze.mk (zu (by repeat (first | (with_reducible first | exact HB.o | apply zl | apply zf | apply zk) | exact HB.o)) hb); clear HB; have HB := n0_; clear n0_; (try clear hb); (try clear hb2); (try clear hk); (try clear hi)))
  go_ret
  exact ⟨by first | rfl | (simp [zy, zx] <;> rfl) | (simp [*, zy, zx] <;> rfl), by repeat (first | (with_reducible first | exact HB.o | apply zl | apply zf | apply zk) | exact HB.o)⟩
 ·rw [if_neg c3] at H
  have c3b0 : (Ja == 2) = false := beq_eq_false_iff_ne.mpr c3
  have c3b1 : (Ja != 2) = true := bne_iff_ne.mpr c3
  by_cases c5 : Ja = 3
  ·rw [if_pos c5] at H
   have c5b0 : (Ja == 3) = true := beq_iff_eq.mpr c5
   have c5b1 : (Ja != 3) = false := bne_eq_false_iff_eq.mpr c5
   clear c5
   obtain rfl := Option.some.inj H
   go_enter Try.func22, Try.ntmps22
   go_wp2_with (first | ((with_reducible refine zM (f := 53) rfl ?_); refine yl (some 7) rfl rfl Try.func53 (by kernel_rfl) rfl #[.int .i64 a0] rfl (by (try simp only [List.map_toArray, List.map_cons, List.map_nil]); first | done | rfl | (simp only [List.length_drop, List.length_take]; rfl)) ?_; (with_reducible refine (plan_What.calls k a0 Ja t148 _ A2.o).mono ?_); rintro e w6 ⟨rfl, hb⟩; refine ⟨_, rfl, ?_⟩; have n0_ := ze.mk (zu (by repeat (first | (with_reducible first | exact HB.o | apply zl | apply zf | apply zk) | exact HB.o)) hb); clear HB; have HB := n0_; clear n0_; (try clear hb); (try clear hb2); (try clear hk); (try clear hi)))
   go_ret
   exact ⟨by first | rfl | (simp [zy, zx] <;> rfl) | (simp [*, zy, zx] <;> rfl), by repeat (first | (with_reducible first | exact HB.o | apply zl | apply zf | apply zk) | exact HB.o)⟩
  ·rw [if_neg c5] at H
   have c5b0 : (Ja == 3) = false := beq_eq_false_iff_ne.mpr c5
   have c5b1 : (Ja != 3) = true := bne_iff_ne.mpr c5
   obtain rfl := Option.some.inj H
   go_enter Try.func22, Try.ntmps22
   go_wp2_with (first | ((with_reducible refine zM (f := 53) rfl ?_); refine yl (some 7) rfl rfl Try.func53 (by kernel_rfl) rfl #[.int .i64 a0] rfl (by (try simp only [List.map_toArray, List.map_cons, List.map_nil]); first | done | rfl | (simp only [List.length_drop, List.length_take]; rfl)) ?_; (with_reducible refine (plan_What.calls k a0 Ja t148 _ A2.o).mono ?_); rintro e w7 ⟨rfl, hb⟩; refine ⟨_, rfl, ?_⟩; have n0_ := ze.mk (zu (by repeat (first | (with_reducible first | exact HB.o | apply zl | apply zf | apply zk) | exact HB.o)) hb); clear HB; have HB := n0_; clear n0_; (try clear hb); (try clear hb2); (try clear hk); (try clear hi)))
   go_ret
   exact ⟨by first | rfl | (simp [zy, zx] <;> rfl) | (simp [*, zy, zx] <;> rfl), by repeat (first | (with_reducible first | exact HB.o | apply zl | apply zf | apply zk) | exact HB.o)⟩

/-! ### bits_Len32: function 89 -/
end Go.Proofs.Ytkbhilhefnahpaa.Print
