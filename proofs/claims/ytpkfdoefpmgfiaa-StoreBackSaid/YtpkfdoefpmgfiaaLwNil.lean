/- Without a view nothing is taken. -/
import Derived.Test.YtpkfdoefpmgfiaaLwA
namespace Go.Proofs.Ytpkfdoefpmgfiaa.Sto
open Go Go.RowKit Go.Proofs.Ytpkfdoefpmgfiaa.ML Go.Proofs.Ytpkfdoefpmgfiaa.Mem Go.Proofs.Ytpkfdoefpmgfiaa.Vw Go.Proofs.Ytpkfdoefpmgfiaa.Print Go.Proofs.YtpkfdoefpmgfiaaW.PrintWords Go.Proofs.YtpkfdoefpmgfiaaW.PrintLast Go.Proofs.YtpkfdoefpmgfiaaW.PrintMore
set_option linter.unusedVariables false
set_option linter.unusedSimpArgs false
set_option maxHeartbeats 4000000 in
set_option maxRecDepth 100000 in
theorem StoreNil_calls (w : World) (n : Int) : Calls Try.prog 6 #[.int .i64 n] w fun e w' => e = .returned (.bool true) ∧ Below w.heap.size w w' := by
  have HB := Aside0.mk (Below.refl w.heap.size w)
  go_enter Try.func6, Try.ntmps6
  go_wp2_with (first
    | (go_at_call 7; refine (lives_calls _).mono ?_; rintro e w1 ⟨rfl, hb⟩; have B := Aside0.mk (HB.out.trans (hb.mono HB.out.size)); clear hb HB; have HB := B; clear B)
    | (go_at_call 13; refine (Take_nil _).mono ?_; rintro e w1 ⟨rfl, hb⟩; have B := Aside0.mk (HB.out.trans (hb.mono HB.out.size)); clear hb HB; have HB := B; clear B)
    | (go_at_call 17; refine (Owner_nil _ _).mono ?_; rintro e w1 ⟨rfl, hb⟩; have B := Aside0.mk (HB.out.trans (hb.mono HB.out.size)); clear hb HB; have HB := B; clear B)
    | (go_at_call 12; refine (Node_nil _).mono ?_; rintro e w1 ⟨rfl, hb⟩; have B := Aside0.mk (HB.out.trans (hb.mono HB.out.size)); clear hb HB; have HB := B; clear B)
    | (go_at_call 18; refine (Drop_nil _ _).mono ?_; rintro e w1 ⟨rfl, hb⟩; have B := Aside0.mk (HB.out.trans (hb.mono HB.out.size)); clear hb HB; have HB := B; clear B)
    | (go_at_call 21; refine (Release_nil _ _).mono ?_; rintro e w1 ⟨rfl, hb⟩; have B := Aside0.mk (HB.out.trans (hb.mono HB.out.size)); clear hb HB; have HB := B; clear B)
    | (go_at_call 15; refine Free_nil.mono ?_; rintro e w1 ⟨rfl, hb⟩; have B := Aside0.mk (HB.out.trans (hb.mono HB.out.size)); clear hb HB; have HB := B; clear B))
  go_ret
  exact ⟨rfl, HB.out⟩
end Go.Proofs.Ytpkfdoefpmgfiaa.Sto
