import Derived.Test.YtdcmahndbmonbaaRows
import Derived.Test.YtdcmahndbmonbaaPrintK
import Derived.Test.YtdcmahndbmonbaaPureCardsBack
import Derived.Test.YtdcmahndbmonbaaPrint11
import Derived.WalkKit
import Derived.ProofKit
import Derived.OpenShut
import Derived.ShutString
import Derived.ChangeOld
import Derived.Below
import Derived.SizedLaws
namespace Go.Proofs.Ytdcmahndbmonbaa.cardsBack
open Go.ChangeShapes Go.WideShapes Go.ChangeAt Go.RowKit Go.Proofs.Ytdcmahndbmonbaa.Print Go.Proofs.YtdcmahndbmonbaaW.PrintWords Go.Proofs.YtdcmahndbmonbaaW.PrintLast
open Go.ChangeMaps (open_string shut_string)
theorem own : ownKnob Try.prog.godebug = none := by kernel_rfl
theorem laidOut : laidOutB Try.prog = true := by kernel_rfl
set_option maxRecDepth 100000 in
set_option linter.unusedVariables false in
set_option linter.unusedSimpArgs false in
theorem lifted (os : Os) (started : os.Started) (H : Type) (enc : TypeId × Value → H) :
    ReturnsInHanded {} Try.checked os 5 .any (Rows.cardsBackSpec.pre6 enc Try.prog Try.f5 Rows.cardsBackRow.domain false) (Rows.cardsBackSpec.post enc Try.prog Try.f5 false true false false) := by
  refine returnsInHanded_of_change_sized (C := Try.checked) own started (by kernel_rfl) Try.func5
    (ChangeSpec.witness6 (enc := enc) (C := Try.checked) false ⟨#[], #[.agg #[.int .i64 0, .int .i64 0, .int .i64 0, .int .u64 0, .int .i64 0, .int .i64 0, .int .i64 0, .int .i64 0, .int .i64 0, .int .i64 0], .slice none 0 0], []⟩ 8 (by kernel_rfl) (by kernel_rfl) (by kernel_rfl) (by kernel_rfl)) ?_
  intro W base args ds gs before hval0 hW hcnd hsz0 _
  have hsz : (DataW.weightsEach Try.prog (Try.f5.params.toList ++ Rows.cardsBackSpec.plain.varTypes Try.prog) (ds ++ gs)).all (· ≤ reachBytes) = true := hsz0
  have hval : ∀ (j : Nat) t v, Try.f5.params[j]? = some t → args[j]? = some v → Value.okWide Try.prog W .any base t v := hval0
  have hW' := hW
  obtain ⟨p, q, hA0, hV, rfl, hfz, hnd⟩ := hW
  have hA : DataW.TrodAll enc Try.prog W 0 (fun _ => true) true Try.f5.params.toList args.toList ds p := hA0
  rw [Try.params5] at hA hval hsz
  obtain ⟨v0, vs0, d0, ds0, p0, q0, hargs, rfl, rfl, h0, r0⟩ := trodAll_cons hA
  obtain ⟨v1, vs1, d1, ds1, p1, q1, rfl, rfl, rfl, h1, r1⟩ := trodAll_cons r0
  obtain ⟨rfl, rfl, rfl⟩ := trodAll_nil r1
  obtain rfl : args = #[v0, v1] := by cases args; simp_all
  obtain ⟨rfl, rfl⟩ := trodVars_none hV
  have k0 := h0
  have lt0 : ∀ x ∈ p0, x.block < W.heap.size := by obtain ⟨m, hm⟩ := k0; exact DataW.trod_lt m _ _ _ hm
  have hs0 : ∀ z ∈ DataW.weights Try.prog 25 d0, z ≤ reachBytes := fun z hz => of_decide_eq_true (List.all_eq_true.1 hsz z (DataW.weights_mem_each (j := 0) (t := 25) rfl rfl z hz))
  obtain ⟨fu0, hf0⟩ := h0
  obtain ⟨x0, hK0, hw0⟩ := opens25 H enc W 0 _ true fu0 _ _ hf0 hs0
  obtain ⟨cs0, rfl⟩ := okWide_str Try.underlying25 (hval 0 25 v0 rfl rfl)
  have e0 := k25_open hK0
  obtain rfl : cs0 = #[.int .i64 x0.f0, .int .i64 x0.f1, .int .i64 x0.f2, .int .u64 x0.f3, .int .i64 x0.f4.f0, .int .i64 x0.f4.f1, .int .i64 x0.f4.f2, .int .i64 x0.f4.f3, .int .i64 x0.f4.f4, .int .i64 x0.f5] := by apply Array.toList_inj.1; exact e0
  have k1 := h1
  have lt1 : ∀ x ∈ p1, x.block < W.heap.size := by obtain ⟨m, hm⟩ := k1; exact DataW.trod_lt m _ _ _ hm
  have hs1 : ∀ z ∈ DataW.weights Try.prog 27 d1, z ≤ reachBytes := fun z hz => of_decide_eq_true (List.all_eq_true.1 hsz z (DataW.weights_mem_each (j := 1) (t := 27) rfl rfl z hz))
  obtain ⟨fu1, hf1⟩ := h1
  obtain ⟨x1, hK1, hw1⟩ := (opens_slice 8 Try.underlying27 (by kernel_rfl) (by kernel_rfl) (opens_int Try.underlying22)) H enc W 0 _ true fu1 _ _ hf1 hs1
  obtain ⟨a1, len1, cap1, rfl⟩ := okWide_slice Try.underlying27 (hval 1 27 v1 rfl rfl)
  obtain ⟨A1, c1, e1, l1, g1⟩ := hK1
  obtain ⟨rfl, rfl, rfl⟩ : a1 = A1 ∧ len1 = x1.length ∧ cap1 = c1 := by simpa [Value.cells] using e1
  clear hA0 hval0 hsz0 hsz
  obtain ⟨k, hk⟩ := Pure.CardsBack x0 x1 hw0 hw1
  refine (escritoirelaw06_CardsBack.calls k (x0.f0) (x0.f1) (x0.f2) (x0.f3) (x0.f4.f0) (x0.f4.f1) (x0.f4.f2) (x0.f4.f3) (x0.f4.f4) (x0.f5) _ _ x1 true W g1 l1 hk).mono fun e W' ⟨he, bel0⟩ => ?_
  have bel : Below W.heap.size W W' := bel0
  subst he
  exact ⟨_, rfl, _, _, _, [], _, [], hW', trodAll_mk1 (shut_bool Try.underlying4 _), (trodAll_cons_mk (Below.trod laidOut (by kernel_rfl) (of_decide_eq_true (by kernel_rfl)) k0 bel lt0) (trodAll_cons_mk (Below.trod laidOut (by kernel_rfl) (of_decide_eq_true (by kernel_rfl)) k1 bel lt1) trodAll_mk0)), rfl, bel.frame _, fun h => by cases h⟩
theorem over : Rows.cardsBackRow.holds Try.pinned (OpenSpec.ofChange Rows.cardsBackSpec) :=
  OpenClaim.holds_of_wide 5 Try.f5 rfl rfl rfl rfl rfl rfl rfl ⟨rfl, rfl, rfl, rfl, rfl⟩ rfl rfl rfl rfl rfl (by kernel_rfl) Try.func5 (by kernel_rfl)
    (of_decide_eq_true (by kernel_rfl)) (by unfold Func.isWrapper; first | (rw [if_pos (by decide +kernel)]; kernel_rfl) | (rw [if_neg (by decide +kernel)]; exact ⟨rfl, rfl⟩))
    (fun os started H enc _ => lifted os started H enc)
theorem proved : Rows.CardsBackSaid := over
end Go.Proofs.Ytdcmahndbmonbaa.cardsBack
namespace Go.Proofs.Ytdcmahndbmonbaa
/-- The row, under a short name, for the claim. -/
theorem cardsBack_holds : Rows.CardsBackSaid := cardsBack.proved
end Go.Proofs.Ytdcmahndbmonbaa
