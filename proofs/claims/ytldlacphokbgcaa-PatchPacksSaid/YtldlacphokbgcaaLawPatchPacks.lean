import Derived.Test.YtldlacphokbgcaaRows
import Derived.Test.YtldlacphokbgcaaPrintK
import Derived.Test.YtldlacphokbgcaaPurePatchPacks
import Derived.Test.YtldlacphokbgcaaPrint19
import Derived.WalkKit
import Derived.ProofKit
import Derived.OpenShut
import Derived.ShutString
import Derived.ChangeOld
import Derived.Below
import Derived.SizedLaws
namespace Go.Proofs.Ytldlacphokbgcaa.patchPacks
open Go.ChangeShapes Go.WideShapes Go.ChangeAt Go.RowKit Go.Proofs.Ytldlacphokbgcaa.Print Go.Proofs.YtldlacphokbgcaaW.PrintWords Go.Proofs.YtldlacphokbgcaaW.PrintLast
open Go.ChangeMaps (open_string shut_string)
theorem own : ownKnob Try.prog.godebug = none := by kernel_rfl
theorem laidOut : laidOutB Try.prog = true := by kernel_rfl
set_option maxRecDepth 100000 in
set_option linter.unusedVariables false in
set_option linter.unusedSimpArgs false in
theorem lifted (os : Os) (started : os.Started) (H : Type) (enc : TypeId × Value → H) :
    ReturnsInHanded {} Try.checked os 7 .any (Rows.patchPacksSpec.pre6 enc Try.prog Try.f7 Rows.patchPacksRow.domain false) (Rows.patchPacksSpec.post enc Try.prog Try.f7 false true false false) := by
  refine returnsInHanded_of_change_sized (C := Try.checked) own started (by kernel_rfl) Try.func7
    (ChangeSpec.witness6 (enc := enc) (C := Try.checked) false ⟨#[], #[.slice none 0 0, .slice none 0 0, .slice none 0 0], []⟩ 8 (by kernel_rfl) (by kernel_rfl) (by kernel_rfl) (by kernel_rfl)) ?_
  intro W base args ds gs before hval0 hW hcnd hsz0 _
  have hsz : (DataW.weightsEach Try.prog (Try.f7.params.toList ++ Rows.patchPacksSpec.plain.varTypes Try.prog) (ds ++ gs)).all (· ≤ reachBytes) = true := hsz0
  have hval : ∀ (j : Nat) t v, Try.f7.params[j]? = some t → args[j]? = some v → Value.okWide Try.prog W .any base t v := hval0
  have hW' := hW
  obtain ⟨p, q, hA0, hV, rfl, hfz, hnd⟩ := hW
  have hA : DataW.TrodAll enc Try.prog W 0 (fun _ => true) true Try.f7.params.toList args.toList ds p := hA0
  rw [Try.params7] at hA hval hsz
  obtain ⟨v0, vs0, d0, ds0, p0, q0, hargs, rfl, rfl, h0, r0⟩ := trodAll_cons hA
  obtain ⟨v1, vs1, d1, ds1, p1, q1, rfl, rfl, rfl, h1, r1⟩ := trodAll_cons r0
  obtain ⟨v2, vs2, d2, ds2, p2, q2, rfl, rfl, rfl, h2, r2⟩ := trodAll_cons r1
  obtain ⟨rfl, rfl, rfl⟩ := trodAll_nil r2
  obtain rfl : args = #[v0, v1, v2] := by cases args; simp_all
  obtain ⟨rfl, rfl⟩ := trodVars_none hV
  have k0 := h0
  have lt0 : ∀ x ∈ p0, x.block < W.heap.size := by obtain ⟨m, hm⟩ := k0; exact DataW.trod_lt m _ _ _ hm
  have hs0 : ∀ z ∈ DataW.weights Try.prog 22 d0, z ≤ reachBytes := fun z hz => of_decide_eq_true (List.all_eq_true.1 hsz z (DataW.weights_mem_each (j := 0) (t := 22) rfl rfl z hz))
  obtain ⟨fu0, hf0⟩ := h0
  obtain ⟨x0, hK0, hw0⟩ := (opens_slice 16 Try.underlying22 (by kernel_rfl) (by kernel_rfl) opens31) H enc W 0 _ true fu0 _ _ hf0 hs0
  obtain ⟨a0, len0, cap0, rfl⟩ := okWide_slice Try.underlying22 (hval 0 22 v0 rfl rfl)
  obtain ⟨A0, c0, e0, l0, g0⟩ := hK0
  obtain ⟨rfl, rfl, rfl⟩ : a0 = A0 ∧ len0 = x0.length ∧ cap0 = c0 := by simpa [Value.cells] using e0
  have k1 := h1
  have lt1 : ∀ x ∈ p1, x.block < W.heap.size := by obtain ⟨m, hm⟩ := k1; exact DataW.trod_lt m _ _ _ hm
  have hs1 : ∀ z ∈ DataW.weights Try.prog 22 d1, z ≤ reachBytes := fun z hz => of_decide_eq_true (List.all_eq_true.1 hsz z (DataW.weights_mem_each (j := 1) (t := 22) rfl rfl z hz))
  obtain ⟨fu1, hf1⟩ := h1
  obtain ⟨x1, hK1, hw1⟩ := (opens_slice 16 Try.underlying22 (by kernel_rfl) (by kernel_rfl) opens31) H enc W 0 _ true fu1 _ _ hf1 hs1
  obtain ⟨a1, len1, cap1, rfl⟩ := okWide_slice Try.underlying22 (hval 1 22 v1 rfl rfl)
  obtain ⟨A1, c1, e1, l1, g1⟩ := hK1
  obtain ⟨rfl, rfl, rfl⟩ : a1 = A1 ∧ len1 = x1.length ∧ cap1 = c1 := by simpa [Value.cells] using e1
  have k2 := h2
  have lt2 : ∀ x ∈ p2, x.block < W.heap.size := by obtain ⟨m, hm⟩ := k2; exact DataW.trod_lt m _ _ _ hm
  have hs2 : ∀ z ∈ DataW.weights Try.prog 23 d2, z ≤ reachBytes := fun z hz => of_decide_eq_true (List.all_eq_true.1 hsz z (DataW.weights_mem_each (j := 2) (t := 23) rfl rfl z hz))
  obtain ⟨fu2, hf2⟩ := h2
  obtain ⟨x2, hK2, hw2⟩ := (opens_slice 8 Try.underlying23 (by kernel_rfl) (by kernel_rfl) (opens_int Try.underlying29)) H enc W 0 _ true fu2 _ _ hf2 hs2
  obtain ⟨a2, len2, cap2, rfl⟩ := okWide_slice Try.underlying23 (hval 2 23 v2 rfl rfl)
  obtain ⟨A2, c2, e2, l2, g2⟩ := hK2
  obtain ⟨rfl, rfl, rfl⟩ : a2 = A2 ∧ len2 = x2.length ∧ cap2 = c2 := by simpa [Value.cells] using e2
  clear hA0 hval0 hsz0 hsz
  obtain ⟨k, hk⟩ := Pure.PatchPacks x0 x1 x2 hw0 hw1 hw2
  refine (escritoirelaw23_PatchPacks.calls k _ _ x0 _ _ x1 _ _ x2 true W g0 l0 g1 l1 g2 l2 hk).mono fun e W' ⟨he, bel0⟩ => ?_
  have bel : Below W.heap.size W W' := bel0
  subst he
  exact ⟨_, rfl, _, _, _, [], _, [], hW', trodAll_mk1 (shut_bool Try.underlying4 _), (trodAll_cons_mk (Below.trod laidOut (by kernel_rfl) (of_decide_eq_true (by kernel_rfl)) k0 bel lt0) (trodAll_cons_mk (Below.trod laidOut (by kernel_rfl) (of_decide_eq_true (by kernel_rfl)) k1 bel lt1) (trodAll_cons_mk (Below.trod laidOut (by kernel_rfl) (of_decide_eq_true (by kernel_rfl)) k2 bel lt2) trodAll_mk0))), rfl, bel.frame _, fun h => by cases h⟩
theorem over : Rows.patchPacksRow.holds Try.pinned (OpenSpec.ofChange Rows.patchPacksSpec) :=
  OpenClaim.holds_of_wide 7 Try.f7 rfl rfl rfl rfl rfl rfl rfl ⟨rfl, rfl, rfl, rfl, rfl⟩ rfl rfl rfl rfl rfl (by kernel_rfl) Try.func7 (by kernel_rfl)
    (of_decide_eq_true (by kernel_rfl)) (by unfold Func.isWrapper; first | (rw [if_pos (by decide +kernel)]; kernel_rfl) | (rw [if_neg (by decide +kernel)]; exact ⟨rfl, rfl⟩))
    (fun os started H enc _ => lifted os started H enc)
theorem proved : Rows.PatchPacksSaid := over
end Go.Proofs.Ytldlacphokbgcaa.patchPacks
namespace Go.Proofs.Ytldlacphokbgcaa
/-- The row, under a short name, for the claim. -/
theorem patchPacks_holds : Rows.PatchPacksSaid := patchPacks.proved
end Go.Proofs.Ytldlacphokbgcaa
