import Derived.Test.YtkbhilhefnahpaaRows
import Derived.Test.YtkbhilhefnahpaaPrintK
import Derived.Test.YtkbhilhefnahpaaPureViewNil
import Derived.Test.YtkbhilhefnahpaaHrowViewNil
import Derived.WalkKit
import Derived.ProofKit
import Derived.OpenShut
import Derived.ShutString
import Derived.ChangeOld
import Derived.Below
import Derived.SizedLaws
namespace Go.Proofs.Ytkbhilhefnahpaa.viewNil
open Go.ChangeShapes Go.WideShapes Go.ChangeAt Go.RowKit Go.Proofs.Ytkbhilhefnahpaa.Print Go.Proofs.YtkbhilhefnahpaaW.PrintWords Go.Proofs.YtkbhilhefnahpaaW.PrintLast
open Go.ChangeMaps (open_string shut_string)
theorem own : ownKnob Try.prog.godebug = none := by kernel_rfl
theorem laidOut : laidOutB Try.prog = true := by kernel_rfl
set_option maxRecDepth 100000 in
set_option linter.unusedVariables false in
set_option linter.unusedSimpArgs false in
theorem lifted (os : Os) (started : os.Started) (H : Type) (enc : TypeId × Value → H) :
    ReturnsInHanded {} Try.checked os 5 .any (Rows.viewNilSpec.pre6 enc Try.prog Try.f5 Rows.viewNilRow.domain false) (Rows.viewNilSpec.post enc Try.prog Try.f5 false true false false) := by
  refine returnsInHanded_of_change_sized (C := Try.checked) own started (by kernel_rfl) Try.func5
    (ChangeSpec.witness6 (enc := enc) (C := Try.checked) false ⟨#[], #[.agg #[.int .i64 0, .int .i64 0, .int .u64 0, .int .i64 0, .int .i64 0, .int .i64 0, .int .u64 0, .int .i64 0, .int .i64 0, .int .i64 0, .int .i64 0, .int .i64 0, .int .i64 0, .slice none 0 0, .slice none 0 0], .int .i64 0], []⟩ 8 (by kernel_rfl) (by kernel_rfl) (by kernel_rfl) (by kernel_rfl)) ?_
  intro W base args ds gs before hval0 hW hcnd hsz0 _
  have hsz : (DataW.weightsEach Try.prog (Try.f5.params.toList ++ Rows.viewNilSpec.plain.varTypes Try.prog) (ds ++ gs)).all (· ≤ reachBytes) = true := hsz0
  have hval : ∀ (j : Nat) t v, Try.f5.params[j]? = some t → args[j]? = some v → Value.okWide Try.prog W .any base t v := hval0
  have hW' := hW
  obtain ⟨p, q, hA0, hV, rfl, hfz, hnd⟩ := hW
  have hA : DataW.TrodAll enc Try.prog W 0 (fun _ => true) true Try.f5.params.toList args.toList ds p := hA0
  rw [Try.params5] at hA hval hsz
  obtain ⟨v0, vs0, d0, ds0, p0, q0, hargs, rfl, rfl, h0, r0⟩ := trodAll_cons hA
  obtain ⟨v1, vs1, d1, ds1, p1, q1, rfl, rfl, rfl, h1, r1⟩ := trodAll_cons r0
  obtain ⟨rfl, rfl, rfl⟩ := trodAll_nil r1
  obtain rfl : args = #[v0, v1] := by cases args; simp_all
  obtain ⟨rfl, rfl⟩ := trodVars_none hV
  have k0 := h0
  have lt0 : ∀ x ∈ p0, x.block < W.heap.size := by obtain ⟨m, hm⟩ := k0; exact DataW.trod_lt m _ _ _ hm
  have hs0 : ∀ z ∈ DataW.weights Try.prog 47 d0, z ≤ reachBytes := fun z hz => of_decide_eq_true (List.all_eq_true.1 hsz z (DataW.weights_mem_each (j := 0) (t := 47) rfl rfl z hz))
  obtain ⟨fu0, hf0⟩ := h0
  obtain ⟨x0, hK0, hw0⟩ := opens47 H enc W 0 _ true fu0 _ _ hf0 hs0
  obtain ⟨cs0, rfl⟩ := okWide_str Try.underlying47 (hval 0 47 v0 rfl rfl)
  obtain ⟨A0_13, c0_13, A0_14, c0_14, e0, l0_13, g0_13, l0_14, g0_14⟩ := k47_open hK0
  obtain rfl : cs0 = #[.int .i64 x0.f0, .int .i64 x0.f1, .int .u64 x0.f2, .int .i64 x0.f3.f0, .int .i64 x0.f3.f1, .int .i64 x0.f3.f2, .int .u64 x0.f3.f3, .int .i64 x0.f3.f4.f0, .int .i64 x0.f3.f4.f1, .int .i64 x0.f3.f4.f2, .int .i64 x0.f3.f4.f3, .int .i64 x0.f3.f4.f4, .int .i64 x0.f3.f5, .slice A0_13 x0.f4.length c0_13, .slice A0_14 x0.f5.length c0_14] := by apply Array.toList_inj.1; exact e0
  obtain ⟨a1, rfl, rfl, rfl, w1⟩ := open_int Try.underlying3 (hval 1 3 v1 rfl rfl) h1
  clear hA0 hval0 hsz0 hsz
  have hk := Pure.ViewNil x0 a1 hw0 w1
  refine (escritoirelaw08_ViewNil.calls (x0.f0) (x0.f1) (x0.f2) (x0.f3.f0) (x0.f3.f1) (x0.f3.f2) (x0.f3.f3) (x0.f3.f4.f0) (x0.f3.f4.f1) (x0.f3.f4.f2) (x0.f3.f4.f3) (x0.f3.f4.f4) (x0.f3.f5) A0_13 c0_13 (x0.f4) A0_14 c0_14 (x0.f5) a1 true W g0_13 l0_13 g0_14 l0_14 hk).mono fun e W' ⟨he, bel0⟩ => ?_
  have bel : Below W.heap.size W W' := bel0
  subst he
  exact ⟨_, rfl, _, _, _, [], _, [], hW', trodAll_mk1 (shut_bool Try.underlying4 _), (trodAll_cons_mk (Below.trod laidOut (by kernel_rfl) (of_decide_eq_true (by kernel_rfl)) k0 bel lt0) (trodAll_cons_mk (shut_int Try.underlying3 w1) trodAll_mk0)), rfl, bel.frame _, fun h => by cases h⟩
theorem over : Rows.viewNilRow.holds Try.pinned (OpenSpec.ofChange Rows.viewNilSpec) :=
  OpenClaim.holds_of_wide 5 Try.f5 rfl rfl rfl rfl rfl rfl rfl ⟨rfl, rfl, rfl, rfl, rfl⟩ rfl rfl rfl rfl rfl (by kernel_rfl) Try.func5 (by kernel_rfl)
    (of_decide_eq_true (by kernel_rfl)) (by unfold Func.isWrapper; first | (rw [if_pos (by decide +kernel)]; kernel_rfl) | (rw [if_neg (by decide +kernel)]; exact ⟨rfl, rfl⟩))
    (fun os started H enc _ => lifted os started H enc)
theorem proved : Rows.ViewNilSaid := over
end Go.Proofs.Ytkbhilhefnahpaa.viewNil
namespace Go.Proofs.Ytkbhilhefnahpaa
/-- The row, under a short name, for the claim. -/
theorem viewNil_holds : Rows.ViewNilSaid := viewNil.proved
end Go.Proofs.Ytkbhilhefnahpaa
