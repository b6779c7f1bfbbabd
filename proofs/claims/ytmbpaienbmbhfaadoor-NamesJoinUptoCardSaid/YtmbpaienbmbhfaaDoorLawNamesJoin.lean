-- Made by wip/tools/wprint.py, a program of this workplace, over the translation. Lean checks it.
import Derived.Test.YtmbpaienbmbhfaaDoorRows
import Derived.Test.YtmbpaienbmbhfaaDoorPrintK
import Derived.Test.YtmbpaienbmbhfaaDoorPureNamesJoin
import Derived.Test.YtmbpaienbmbhfaaDoorPrint8
import Derived.WalkKit
import Derived.ProofKit
import Derived.OpenShut
import Derived.ShutString
import Derived.ChangeOld
import Derived.Below
import Derived.SizedLaws
import Derived.JoinedCond
import Derived.Deep.CondSized
import Derived.Test.YtmbpaienbmbhfaaDoorHUptoLaid
import Derived.LaidMore
import Derived.Lay
import Derived.SevenTiedAt
import Derived.Test.YtmbpaienbmbhfaaDoorCards
import Derived.Test.YtmbpaienbmbhfaaDoorTie
namespace Go.Proofs.YtmbpaienbmbhfaaDoor.namesJoinUpto
open Go.ChangeShapes Go.WideShapes Go.ChangeAt Go.RowKit Go.Proofs.YtmbpaienbmbhfaaDoor.Print Go.Proofs.YtmbpaienbmbhfaaDoorW.PrintWords Go.Proofs.YtmbpaienbmbhfaaDoorW.PrintLast
open Go.ChangeMaps (open_string shut_string)
theorem own : ownKnob Tryd.prog.godebug = none := by kernel_rfl
theorem laidOut : laidOutB Tryd.prog = true := by kernel_rfl
set_option maxRecDepth 100000 in
set_option linter.unusedVariables false in
set_option linter.unusedSimpArgs false in
theorem lifted (os : Os) (started : os.Started) (H : Type) (enc : TypeId × Value → H) (F : Stop.Interp) :
    ReturnsInHanded {} Tryd.checked os 7 .any (fun w args => ((Rows.OpenSpec.upto Rows.namesJoinSpec).pre enc Tryd.prog Tryd.f7 Rows.namesJoinUptoRow.domain false w args ∧ laidMetH Tryd.prog Rows.namesJoinUptoRow.laid w) ∧ sizedMet enc Tryd.prog Tryd.f7 (Rows.OpenSpec.upto Rows.namesJoinSpec) false w args) (((Rows.OpenSpec.upto Rows.namesJoinSpec).at F).post enc Tryd.prog Tryd.f7 false true false false) := by
  refine Go.Proofs.YtmbpaienbmbhfaaDoor.Print.returnsInHanded_of_cond_laid (C := Tryd.checked) (s := (Rows.OpenSpec.upto Rows.namesJoinSpec)) (k := Rows.uptoSmall) (X := fun w _ => laidMetH Tryd.prog Rows.namesJoinUptoRow.laid w) rfl (fun _ _ _ hh h => h.of_heap hh) own started (by kernel_rfl) Tryd.func7
    (Go.Proofs.YtmbpaienbmbhfaaDoor.Print.witness_cond_laid (enc := enc) (C := Tryd.checked) (os := os) (s := (Rows.OpenSpec.upto Rows.namesJoinSpec)) (k := Rows.uptoSmall) (X := fun w _ => laidMetH Tryd.prog Rows.namesJoinUptoRow.laid w) rfl false (World.laidAll Tryd.prog os Rows.namesJoinUptoRow.laid) #[.slice none 0 0, .slice none 0 0] 8 (World.laidAll_os _ _ _)
      (World.shaped_of_ZipB (by kernel_rfl) (by kernel_rfl)) (by kernel_rfl) (x := ([.nil, .nil], [], [])) (by kernel_rfl) rfl (by kernel_rfl) (by kernel_rfl)
      (by rw [MakeChecks.laidMetH_plain _ _ _ (by kernel_rfl)]; exact laidMet_laidAll _ (by kernel_rfl) (by kernel_rfl))) ?_
  intro W base args ds gs before hval0 hW hcnd hk hsz0 _ _
  have hsz : (DataW.weightsEach Tryd.prog (Tryd.f7.params.toList ++ Rows.namesJoinSpec.plain.varTypes Tryd.prog) (ds ++ gs)).all (· ≤ reachBytes) = true := hsz0
  have hval : ∀ (j : Nat) t v, Tryd.f7.params[j]? = some t → args[j]? = some v → Value.okWide Tryd.prog W .any base t v := hval0
  have hW' := hW
  obtain ⟨p, q, hA0, hV, rfl, hfz, hnd⟩ := hW
  have hA : DataW.TrodAll enc Tryd.prog W 0 (fun _ => true) true Tryd.f7.params.toList args.toList ds p := hA0
  rw [Tryd.params7] at hA hval hsz
  obtain ⟨v0, vs0, d0, ds0, p0, q0, hargs, rfl, rfl, h0, r0⟩ := trodAll_cons hA
  obtain ⟨v1, vs1, d1, ds1, p1, q1, rfl, rfl, rfl, h1, r1⟩ := trodAll_cons r0
  obtain ⟨rfl, rfl, rfl⟩ := trodAll_nil r1
  obtain rfl : args = #[v0, v1] := by cases args; simp_all
  obtain ⟨rfl, rfl⟩ := trodVars_none hV
  have k0 := h0
  have lt0 : ∀ x ∈ p0, x.block < W.heap.size := by obtain ⟨m, hm⟩ := k0; exact DataW.trod_lt m _ _ _ hm
  have hs0 : ∀ z ∈ DataW.weights Tryd.prog 23 d0, z ≤ reachBytes := fun z hz => of_decide_eq_true (List.all_eq_true.1 hsz z (DataW.weights_mem_each (j := 0) (t := 23) rfl rfl z hz))
  obtain ⟨fu0, hf0⟩ := h0
  obtain ⟨x0, hK0, hw0⟩ := (opens_slice 16 Tryd.underlying23 (by kernel_rfl) (by kernel_rfl) (opens_string Tryd.underlying9)) H enc W 0 _ true fu0 _ _ hf0 hs0
  obtain ⟨a0, len0, cap0, rfl⟩ := okWide_slice Tryd.underlying23 (hval 0 23 v0 rfl rfl)
  obtain ⟨A0, c0, e0, l0, g0⟩ := hK0
  obtain ⟨rfl, rfl, rfl⟩ : a0 = A0 ∧ len0 = x0.length ∧ cap0 = c0 := by simpa [Value.cells] using e0
  have bb0 := Go.Proofs.YtmbpaienbmbhfaaDoor.Print.bulk_slice Tryd.underlying23 hf0
  have bt0 := Go.Proofs.YtmbpaienbmbhfaaDoor.Print.bulk_strings Tryd.underlying23 Tryd.underlying9 (by kernel_rfl) hf0 g0
  have k1 := h1
  have lt1 : ∀ x ∈ p1, x.block < W.heap.size := by obtain ⟨m, hm⟩ := k1; exact DataW.trod_lt m _ _ _ hm
  have hs1 : ∀ z ∈ DataW.weights Tryd.prog 23 d1, z ≤ reachBytes := fun z hz => of_decide_eq_true (List.all_eq_true.1 hsz z (DataW.weights_mem_each (j := 1) (t := 23) rfl rfl z hz))
  obtain ⟨fu1, hf1⟩ := h1
  obtain ⟨x1, hK1, hw1⟩ := (opens_slice 16 Tryd.underlying23 (by kernel_rfl) (by kernel_rfl) (opens_string Tryd.underlying9)) H enc W 0 _ true fu1 _ _ hf1 hs1
  obtain ⟨a1, len1, cap1, rfl⟩ := okWide_slice Tryd.underlying23 (hval 1 23 v1 rfl rfl)
  obtain ⟨A1, c1, e1, l1, g1⟩ := hK1
  obtain ⟨rfl, rfl, rfl⟩ : a1 = A1 ∧ len1 = x1.length ∧ cap1 = c1 := by simpa [Value.cells] using e1
  have bb1 := Go.Proofs.YtmbpaienbmbhfaaDoor.Print.bulk_slice Tryd.underlying23 hf1
  have bt1 := Go.Proofs.YtmbpaienbmbhfaaDoor.Print.bulk_strings Tryd.underlying23 Tryd.underlying9 (by kernel_rfl) hf1 g1
  have hb0 : Rows.uptoBulkAll _ ≤ 1048576 := of_decide_eq_true hk
  simp only [List.cons_append, List.nil_append, List.append_nil, Rows.uptoBulkAll] at hb0
  have bk0 : x0.length ≤ 1048576 := by (try dsimp only at bb0); omega
  have bk1 : x1.length ≤ 1048576 := by (try dsimp only at bb1); omega
  have bu0 : (x0.map ByteArray.size).sum ≤ 1048576 := by (try dsimp only at bt0); omega
  have bu1 : (x1.map ByteArray.size).sum ≤ 1048576 := by (try dsimp only at bt1); omega
  clear hA0 hval0 hsz0 hsz
  obtain ⟨k, hk⟩ := Pure.NamesJoin x0 x1 ⟨hw0, bk0, bu0⟩ ⟨hw1, bk1, bu1⟩
  refine (escritoirelaw04_NamesJoin.calls k _ _ x0 _ _ x1 true W g0 l0 g1 l1 hk).mono fun e W' ⟨he, bel0⟩ => ?_
  have bel : Below W.heap.size W W' := bel0
  subst he
  exact ⟨_, rfl, _, _, _, [], _, [], hW', trodAll_mk1 (shut_bool Tryd.underlying4 _), (trodAll_cons_mk (Below.trod laidOut (by kernel_rfl) (of_decide_eq_true (by kernel_rfl)) k0 bel lt0) (trodAll_cons_mk (Below.trod laidOut (by kernel_rfl) (of_decide_eq_true (by kernel_rfl)) k1 bel lt1) trodAll_mk0)), rfl, bel.frame _, fun h => by cases h⟩
theorem over : Rows.namesJoinUptoRow.holds Tryd.pinned (Rows.OpenSpec.upto Rows.namesJoinSpec) :=
  OpenClaim.holds_of_cond 7 Tryd.f7 rfl rfl rfl rfl rfl rfl rfl ⟨rfl, rfl, rfl, rfl, rfl⟩ rfl rfl rfl rfl rfl (by kernel_rfl) Tryd.func7 (by kernel_rfl)
    (of_decide_eq_true (by kernel_rfl)) (by unfold Func.isWrapper; first | (rw [if_pos (by decide +kernel)]; kernel_rfl) | (rw [if_neg (by decide +kernel)]; exact ⟨rfl, rfl⟩))
    (fun os started H enc _ F => lifted os started H enc F)
theorem card : Rows.NamesJoinUptoCardSaid :=
  Claim7.holds_tied_plain_at .later [] [.data, .pinned] true (true, "b145607e5359a3c09bf97ae9005f9549f2b016e6c482d08758dea3d64b62aac0") false over (fun _ h => by cases h) (by kernel_rfl) (fun _ h => by cases h) namesJoinUpto_row_tie rfl ⟨rfl, rfl⟩ (by kernel_rfl) rfl
    (fun f fn hf hfn => by
      obtain rfl : f = 7 := Option.some.inj ((show Tryd.prog.funcNamed "escritoire/escritoirelaw04.NamesJoin" = some 7 by kernel_rfl).symm.trans hf) |>.symm
      obtain rfl : fn = Tryd.f7 := (Option.some.inj (Tryd.func7.symm.trans hfn)).symm
      exact ⟨by kernel_rfl, fun j t ht => by
        rw [Tryd.params7] at ht
        have hm : t ∈ [23, 23] := by simpa using Array.mem_of_getElem? ht
        have hall : ([23, 23].all fun u => !Tryd.prog.wantsStandIn u) = true := by kernel_rfl
        exact (show Tryd.prog.wantsStandIn t = false by simpa using List.all_eq_true.1 hall t hm)⟩)
    (by kernel_rfl)
#print axioms card
end Go.Proofs.YtmbpaienbmbhfaaDoor.namesJoinUpto
namespace Go.Proofs.YtmbpaienbmbhfaaDoor
/-- The card, under a short name, for the claim. -/
theorem namesJoinUpto_holds : Rows.NamesJoinUptoCardSaid := namesJoinUpto.card
end Go.Proofs.YtmbpaienbmbhfaaDoor
