import Derived.Test.YtkbhilhefnahpaaHOpens
import Derived.WideShapes
import Derived.Test.YtkbhilhefnahpaaHrowViewFresh
import Derived.Test.YtkbhilhefnahpaaHrowViewNil
namespace Go.Proofs.Ytkbhilhefnahpaa.Print
open Go.RowKit Go.WideShapes Go.Proofs.YtkbhilhefnahpaaW.PrintWords Go.Proofs.YtkbhilhefnahpaaW.PrintLast
def wf43 (x : S43) : Prop := ((Lit.int .i64 x.f0).wf = true) ∧ ((Lit.int .i64 x.f1).wf = true) ∧ ((Lit.int .i64 x.f2).wf = true) ∧ ((Lit.int .i64 x.f3).wf = true) ∧ ((Lit.int .i64 x.f4).wf = true)
theorem opens43 : Opens Try.prog 43 k43 wf43 :=
  (opens_iso (fun a => (⟨a.1, a.2.1, a.2.2.1, a.2.2.2.1, a.2.2.2.2⟩ : S43)) (fun _ => rfl) (opens_array Try.underlying43 (by kernel_rfl) (by rw [show ((List.range 5).map fun i => (3, i * Try.prog.cellsOf 3)) = [(3, 0), (3, 1), (3, 2), (3, 3), (3, 4)] from by kernel_rfl]; exact opensF_cons (o := 0) (opens_int Try.underlying3) (by kernel_rfl) (opensF_cons (o := 1) (opens_int Try.underlying3) (by kernel_rfl) (opensF_cons (o := 2) (opens_int Try.underlying3) (by kernel_rfl) (opensF_cons (o := 3) (opens_int Try.underlying3) (by kernel_rfl) (opensF_one (o := 4) (opens_int Try.underlying3) (by kernel_rfl)))))))).mono (fun _ h => h)
def wf45 (x : S45) : Prop := ((Lit.int .i64 x.f0).wf = true) ∧ ((Lit.int .i64 x.f1).wf = true) ∧ ((Lit.int .i64 x.f2).wf = true) ∧ ((Lit.int .u64 x.f3).wf = true) ∧ (wf43 x.f4) ∧ ((Lit.int .i64 x.f5).wf = true)
theorem opens45 : Opens Try.prog 45 k45 wf45 :=
  (opens_iso (fun a => (⟨a.1, a.2.1, a.2.2.1, a.2.2.2.1, a.2.2.2.2.1, a.2.2.2.2.2⟩ : S45)) (fun _ => rfl) (opens_struct Try.underlying45 (by kernel_rfl) (show OpensF Try.prog [(3, 0), (3, 1), (3, 2), (22, 3), (43, 4), (3, 9)] 0 _ _ from opensF_cons (o := 0) (opens_int Try.underlying3) (by kernel_rfl) (opensF_cons (o := 1) (opens_int Try.underlying3) (by kernel_rfl) (opensF_cons (o := 2) (opens_int Try.underlying3) (by kernel_rfl) (opensF_cons (o := 3) (opens_int Try.underlying22) (by kernel_rfl) (opensF_cons (o := 4) opens43 (by kernel_rfl) (opensF_one (o := 9) (opens_int Try.underlying3) (by kernel_rfl))))))))).mono (fun _ h => h)
def wf47 (x : S47) : Prop := ((Lit.int .i64 x.f0).wf = true) ∧ ((Lit.int .i64 x.f1).wf = true) ∧ ((Lit.int .u64 x.f2).wf = true) ∧ (wf45 x.f3) ∧ (x.f4.length ≤ 9223372036854775807 ∧ x.f4.length * 8 ≤ 140737488351232 ∧ ∀ x_ ∈ x.f4, (Lit.int .u64 x_).wf = true) ∧ (x.f5.length ≤ 9223372036854775807 ∧ x.f5.length * 8 ≤ 140737488351232 ∧ ∀ x_ ∈ x.f5, (Lit.int .i64 x_).wf = true)
theorem opens47 : Opens Try.prog 47 k47 wf47 :=
  (opens_iso (fun a => (⟨a.1, a.2.1, a.2.2.1, a.2.2.2.1, a.2.2.2.2.1, a.2.2.2.2.2⟩ : S47)) (fun _ => rfl) (opens_struct Try.underlying47 (by kernel_rfl) (show OpensF Try.prog [(3, 0), (3, 1), (22, 2), (45, 3), (26, 13), (35, 14)] 0 _ _ from opensF_cons (o := 0) (opens_int Try.underlying3) (by kernel_rfl) (opensF_cons (o := 1) (opens_int Try.underlying3) (by kernel_rfl) (opensF_cons (o := 2) (opens_int Try.underlying22) (by kernel_rfl) (opensF_cons (o := 3) opens45 (by kernel_rfl) (opensF_cons (o := 13) (opens_slice 8 Try.underlying26 (by kernel_rfl) (by kernel_rfl) (opens_int Try.underlying22)) (by kernel_rfl) (opensF_one (o := 14) (opens_slice 8 Try.underlying35 (by kernel_rfl) (by kernel_rfl) (opens_int Try.underlying3)) (by kernel_rfl))))))))).mono (fun _ h => h)
theorem okWide_str {P : Program} {w : World} {r : Reach} {base : Nat} {t : TypeId} {v : Value} {fs : Array Field} (ht : P.underlying t = some (.struct fs)) (h : Value.okWide P w r base t v) : ∃ cs, v = .agg cs := by
  simp only [Value.okWide, ht] at h
  obtain ⟨cs, h1, _⟩ := h
  exact ⟨cs, h1⟩
def escritoirelaw08_ViewNil.Pure : Prop := ∀ (a0 : S47) (a1 : Int), (wf47 a0) → ((Lit.int .i64 a1).wf = true) → escritoirelaw08_ViewNil.f (a0).f0 (a0).f1 (a0).f2 (a0).f3.f0 (a0).f3.f1 (a0).f3.f2 (a0).f3.f3 (a0).f3.f4.f0 (a0).f3.f4.f1 (a0).f3.f4.f2 (a0).f3.f4.f3 (a0).f3.f4.f4 (a0).f3.f5 (a0).f4 (a0).f5 a1 = some true
end Go.Proofs.Ytkbhilhefnahpaa.Print
