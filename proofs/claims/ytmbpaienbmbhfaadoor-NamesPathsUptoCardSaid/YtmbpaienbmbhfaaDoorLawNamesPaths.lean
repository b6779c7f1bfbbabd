-- Made by wip/tools/wprint.py, a program of this workplace, over the translation. Lean checks it.
import Derived.Test.YtmbpaienbmbhfaaDoorRows
import Derived.Test.YtmbpaienbmbhfaaDoorPrintK
import Derived.Test.YtmbpaienbmbhfaaDoorPureNamesPaths
import Derived.Test.YtmbpaienbmbhfaaDoorPrint5
import Derived.WalkKit
import Derived.ProofKit
import Derived.OpenShut
import Derived.ShutString
import Derived.ChangeOld
import Derived.Below
import Derived.SizedLaws
import Derived.JoinedCond
import Derived.Deep.CondSized
import Derived.Test.YtmbpaienbmbhfaaDoorHUptoLaid
import Derived.LaidMore
import Derived.Lay
import Derived.SevenTiedAt
import Derived.Test.YtmbpaienbmbhfaaDoorCards
import Derived.Test.YtmbpaienbmbhfaaDoorTie
namespace Go.Proofs.YtmbpaienbmbhfaaDoor.namesPathsUpto
open Go.ChangeShapes Go.WideShapes Go.ChangeAt Go.RowKit Go.Proofs.YtmbpaienbmbhfaaDoor.Print Go.Proofs.YtmbpaienbmbhfaaDoorW.PrintWords Go.Proofs.YtmbpaienbmbhfaaDoorW.PrintLast
open Go.ChangeMaps (open_string shut_string)
theorem own : ownKnob Tryd.prog.godebug = none := by kernel_rfl
set_option maxRecDepth 100000 in
set_option linter.unusedVariables false in
set_option linter.unusedSimpArgs false in
theorem lifted (os : Os) (started : os.Started) (H : Type) (enc : TypeId × Value → H) (F : Stop.Interp) :
    ReturnsInHanded {} Tryd.checked os 3 .any (fun w args => ((Rows.OpenSpec.upto Rows.namesPathsSpec).pre enc Tryd.prog Tryd.f3 Rows.namesPathsUptoRow.domain false w args ∧ laidMetH Tryd.prog Rows.namesPathsUptoRow.laid w) ∧ sizedMet enc Tryd.prog Tryd.f3 (Rows.OpenSpec.upto Rows.namesPathsSpec) false w args) (((Rows.OpenSpec.upto Rows.namesPathsSpec).at F).post enc Tryd.prog Tryd.f3 false true false false) := by
  refine Go.Proofs.YtmbpaienbmbhfaaDoor.Print.returnsInHanded_of_cond_laid (C := Tryd.checked) (s := (Rows.OpenSpec.upto Rows.namesPathsSpec)) (k := Rows.uptoSmall) (X := fun w _ => laidMetH Tryd.prog Rows.namesPathsUptoRow.laid w) rfl (fun _ _ _ hh h => h.of_heap hh) own started (by kernel_rfl) Tryd.func3
    (Go.Proofs.YtmbpaienbmbhfaaDoor.Print.witness_cond_laid (enc := enc) (C := Tryd.checked) (os := os) (s := (Rows.OpenSpec.upto Rows.namesPathsSpec)) (k := Rows.uptoSmall) (X := fun w _ => laidMetH Tryd.prog Rows.namesPathsUptoRow.laid w) rfl false (World.laidAll Tryd.prog os Rows.namesPathsUptoRow.laid) #[.string ByteArray.empty, .string ByteArray.empty] 8 (World.laidAll_os _ _ _)
      (World.shaped_of_ZipB (by kernel_rfl) (by kernel_rfl)) (by kernel_rfl) (x := ([.lit (.string []), .lit (.string [])], [], [])) (by kernel_rfl) rfl (by kernel_rfl) (by kernel_rfl)
      (by rw [MakeChecks.laidMetH_plain _ _ _ (by kernel_rfl)]; exact laidMet_laidAll _ (by kernel_rfl) (by kernel_rfl))) ?_
  intro W base args ds gs before hval0 hW hcnd hk hsz0 _ _
  have hsz : (DataW.weightsEach Tryd.prog (Tryd.f3.params.toList ++ Rows.namesPathsSpec.plain.varTypes Tryd.prog) (ds ++ gs)).all (· ≤ reachBytes) = true := hsz0
  have hval : ∀ (j : Nat) t v, Tryd.f3.params[j]? = some t → args[j]? = some v → Value.okWide Tryd.prog W .any base t v := hval0
  have hW' := hW
  obtain ⟨p, q, hA0, hV, rfl, hfz, hnd⟩ := hW
  have hA : DataW.TrodAll enc Tryd.prog W 0 (fun _ => true) true Tryd.f3.params.toList args.toList ds p := hA0
  rw [Tryd.params3] at hA hval hsz
  obtain ⟨v0, vs0, d0, ds0, p0, q0, hargs, rfl, rfl, h0, r0⟩ := trodAll_cons hA
  obtain ⟨v1, vs1, d1, ds1, p1, q1, rfl, rfl, rfl, h1, r1⟩ := trodAll_cons r0
  obtain ⟨rfl, rfl, rfl⟩ := trodAll_nil r1
  obtain rfl : args = #[v0, v1] := by cases args; simp_all
  obtain ⟨rfl, rfl⟩ := trodVars_none hV
  obtain ⟨a0, rfl, rfl, rfl, y0⟩ := open_string Tryd.underlying9 (hval 0 9 v0 rfl rfl) h0
  have w0 : a0.size ≤ 140737488351232 := by
    have z := sized_string hsz (j := 0) (t := 9) rfl rfl
    rw [Array.length_toList] at z
    exact z
  obtain ⟨a1, rfl, rfl, rfl, y1⟩ := open_string Tryd.underlying9 (hval 1 9 v1 rfl rfl) h1
  have w1 : a1.size ≤ 140737488351232 := by
    have z := sized_string hsz (j := 1) (t := 9) rfl rfl
    rw [Array.length_toList] at z
    exact z
  have hb0 : Rows.uptoBulkAll _ ≤ 1048576 := of_decide_eq_true hk
  simp only [List.cons_append, List.nil_append, List.append_nil, Rows.uptoBulkAll] at hb0
  have bk0 : a0.size ≤ 1048576 := by have bs_ := Go.Proofs.YtmbpaienbmbhfaaDoor.Print.bulk_string (H := H) a0; (try dsimp only at bs_); omega
  have bk1 : a1.size ≤ 1048576 := by have bs_ := Go.Proofs.YtmbpaienbmbhfaaDoor.Print.bulk_string (H := H) a1; (try dsimp only at bs_); omega
  clear hA0 hval0 hsz0 hsz
  obtain ⟨k, hk⟩ := Pure.NamesPaths a0 a1 ⟨w0, bk0⟩ ⟨w1, bk1⟩
  refine (escritoirelaw04_NamesPaths.calls k a0 a1 true W  hk).mono fun e W' ⟨he, bel0⟩ => ?_
  have bel : Below W.heap.size W W' := bel0
  subst he
  exact ⟨_, rfl, _, _, _, [], _, [], hW', trodAll_mk1 (shut_bool Tryd.underlying4 _), (trodAll_cons_mk (shut_string Tryd.underlying9 y0) (trodAll_cons_mk (shut_string Tryd.underlying9 y1) trodAll_mk0)), rfl, bel.frame _, fun h => by cases h⟩
theorem over : Rows.namesPathsUptoRow.holds Tryd.pinned (Rows.OpenSpec.upto Rows.namesPathsSpec) :=
  OpenClaim.holds_of_cond 3 Tryd.f3 rfl rfl rfl rfl rfl rfl rfl ⟨rfl, rfl, rfl, rfl, rfl⟩ rfl rfl rfl rfl rfl (by kernel_rfl) Tryd.func3 (by kernel_rfl)
    (of_decide_eq_true (by kernel_rfl)) (by unfold Func.isWrapper; first | (rw [if_pos (by decide +kernel)]; kernel_rfl) | (rw [if_neg (by decide +kernel)]; exact ⟨rfl, rfl⟩))
    (fun os started H enc _ F => lifted os started H enc F)
theorem card : Rows.NamesPathsUptoCardSaid :=
  Claim7.holds_tied_plain_at .later [] [.data, .pinned] true (true, "b145607e5359a3c09bf97ae9005f9549f2b016e6c482d08758dea3d64b62aac0") false over (fun _ h => by cases h) (by kernel_rfl) (fun _ h => by cases h) namesPathsUpto_row_tie rfl ⟨rfl, rfl⟩ (by kernel_rfl) rfl
    (fun f fn hf hfn => by
      obtain rfl : f = 3 := Option.some.inj ((show Tryd.prog.funcNamed "escritoire/escritoirelaw04.NamesPaths" = some 3 by kernel_rfl).symm.trans hf) |>.symm
      obtain rfl : fn = Tryd.f3 := (Option.some.inj (Tryd.func3.symm.trans hfn)).symm
      exact ⟨by kernel_rfl, fun j t ht => by
        rw [Tryd.params3] at ht
        have hm : t ∈ [9, 9] := by simpa using Array.mem_of_getElem? ht
        have hall : ([9, 9].all fun u => !Tryd.prog.wantsStandIn u) = true := by kernel_rfl
        exact (show Tryd.prog.wantsStandIn t = false by simpa using List.all_eq_true.1 hall t hm)⟩)
    (by kernel_rfl)
#print axioms card
end Go.Proofs.YtmbpaienbmbhfaaDoor.namesPathsUpto
namespace Go.Proofs.YtmbpaienbmbhfaaDoor
/-- The card, under a short name, for the claim. -/
theorem namesPathsUpto_holds : Rows.NamesPathsUptoCardSaid := namesPathsUpto.card
end Go.Proofs.YtmbpaienbmbhfaaDoor
