import Derived.Test.YtkbhilhefnahpaaHOpens
import Derived.WideShapes
import Derived.Test.YtkbhilhefnahpaaHrowViewMakes
namespace Go.Proofs.Ytkbhilhefnahpaa.Print
open Go.RowKit Go.WideShapes Go.Proofs.YtkbhilhefnahpaaW.PrintWords Go.Proofs.YtkbhilhefnahpaaW.PrintLast
def wf51 (x : S51) : Prop := ((Lit.int .i64 x.f0).wf = true) ∧ ((Lit.int .u64 x.f1).wf = true)
theorem opens51 : Opens Try.prog 51 k51 wf51 :=
 (YQ (fun a => (⟨a.1, a.2⟩ : S51)) (fun _ => rfl) (Yf Try.underlying51 (by kernel_rfl) (show Xl Try.prog [(3, 0), (22, 1)] 0 _ _ from yg (o := 0) (yw Try.underlying3) (by kernel_rfl) (Ym (o := 1) (yw Try.underlying22) (by kernel_rfl))))).mono (fun _ h => h)
def wf43 (x : S43) : Prop := ((Lit.int .i64 x.f0).wf = true) ∧ ((Lit.int .i64 x.f1).wf = true) ∧ ((Lit.int .i64 x.f2).wf = true) ∧ ((Lit.int .i64 x.f3).wf = true) ∧ ((Lit.int .i64 x.f4).wf = true)
theorem opens43 : Opens Try.prog 43 k43 wf43 :=
 (YQ (fun a => (⟨a.1, a.2.1, a.2.2.1, a.2.2.2.1, a.2.2.2.2⟩ : S43)) (fun _ => rfl) (opens_array Try.underlying43 (by kernel_rfl) (by rw [show ((List.range 5).map fun i => (3, i * Try.prog.cellsOf 3)) = [(3, 0), (3, 1), (3, 2), (3, 3), (3, 4)] from by kernel_rfl]; exact yg (o := 0) (yw Try.underlying3) (by kernel_rfl) (yg (o := 1) (yw Try.underlying3) (by kernel_rfl) (yg (o := 2) (yw Try.underlying3) (by kernel_rfl) (yg (o := 3) (yw Try.underlying3) (by kernel_rfl) (Ym (o := 4) (yw Try.underlying3) (by kernel_rfl)))))))).mono (fun _ h => h)
def wf45 (x : S45) : Prop := ((Lit.int .i64 x.f0).wf = true) ∧ ((Lit.int .i64 x.f1).wf = true) ∧ ((Lit.int .i64 x.f2).wf = true) ∧ ((Lit.int .u64 x.f3).wf = true) ∧ (wf43 x.f4) ∧ ((Lit.int .i64 x.f5).wf = true)
theorem opens45 : Opens Try.prog 45 k45 wf45 :=
 (YQ (fun a => (⟨a.1, a.2.1, a.2.2.1, a.2.2.2.1, a.2.2.2.2.1, a.2.2.2.2.2⟩ : S45)) (fun _ => rfl) (Yf Try.underlying45 (by kernel_rfl) (show Xl Try.prog [(3, 0), (3, 1), (3, 2), (22, 3), (43, 4), (3, 9)] 0 _ _ from yg (o := 0) (yw Try.underlying3) (by kernel_rfl) (yg (o := 1) (yw Try.underlying3) (by kernel_rfl) (yg (o := 2) (yw Try.underlying3) (by kernel_rfl) (yg (o := 3) (yw Try.underlying22) (by kernel_rfl) (yg (o := 4) opens43 (by kernel_rfl) (Ym (o := 9) (yw Try.underlying3) (by kernel_rfl))))))))).mono (fun _ h => h)
def wf47 (x : S47) : Prop := ((Lit.int .i64 x.f0).wf = true) ∧ ((Lit.int .i64 x.f1).wf = true) ∧ ((Lit.int .u64 x.f2).wf = true) ∧ (wf45 x.f3) ∧ (x.f4.length ≤ 9223372036854775807 ∧ x.f4.length * 8 ≤ 140737488351232 ∧ ∀ x_ ∈ x.f4, (Lit.int .u64 x_).wf = true) ∧ (x.f5.length ≤ 9223372036854775807 ∧ x.f5.length * 8 ≤ 140737488351232 ∧ ∀ x_ ∈ x.f5, (Lit.int .i64 x_).wf = true)
theorem opens47 : Opens Try.prog 47 k47 wf47 :=
 (YQ (fun a => (⟨a.1, a.2.1, a.2.2.1, a.2.2.2.1, a.2.2.2.2.1, a.2.2.2.2.2⟩ : S47)) (fun _ => rfl) (Yf Try.underlying47 (by kernel_rfl) (show Xl Try.prog [(3, 0), (3, 1), (22, 2), (45, 3), (26, 13), (35, 14)] 0 _ _ from yg (o := 0) (yw Try.underlying3) (by kernel_rfl) (yg (o := 1) (yw Try.underlying3) (by kernel_rfl) (yg (o := 2) (yw Try.underlying22) (by kernel_rfl) (yg (o := 3) opens45 (by kernel_rfl) (yg (o := 13) (ZO 8 Try.underlying26 (by kernel_rfl) (by kernel_rfl) (yw Try.underlying22)) (by kernel_rfl) (Ym (o := 14) (ZO 8 Try.underlying35 (by kernel_rfl) (by kernel_rfl) (yw Try.underlying3)) (by kernel_rfl))))))))).mono (fun _ h => h)
def escritoirelaw08_ViewMakes.Pure : Prop := ∀ (l0 : List (S51)) (l1 : List (S47)), (l0.length ≤ 9223372036854775807 ∧ l0.length * 16 ≤ 140737488351232 ∧ ∀ x_ ∈ l0, wf51 x_) → (l1.length ≤ 9223372036854775807 ∧ l1.length * 152 ≤ 140737488351232 ∧ ∀ x_ ∈ l1, wf47 x_) → escritoirelaw08_ViewMakes.f l0 l1 = some true
end Go.Proofs.Ytkbhilhefnahpaa.Print
