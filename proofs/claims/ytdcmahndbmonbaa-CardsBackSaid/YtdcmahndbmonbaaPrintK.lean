import Derived.Test.YtdcmahndbmonbaaHOpens
import Derived.WideShapes
import Derived.Test.YtdcmahndbmonbaaPrint9
import Derived.Test.YtdcmahndbmonbaaPrint10
import Derived.Test.YtdcmahndbmonbaaPrint11
import Derived.Test.YtdcmahndbmonbaaPrint12
namespace Go.Proofs.Ytdcmahndbmonbaa.Print
open Go.RowKit Go.WideShapes Go.Proofs.YtdcmahndbmonbaaW.PrintWords Go.Proofs.YtdcmahndbmonbaaW.PrintLast
def wf23 (x : S23) : Prop := ((Lit.int .i64 x.f0).wf = true) ∧ ((Lit.int .i64 x.f1).wf = true) ∧ ((Lit.int .i64 x.f2).wf = true) ∧ ((Lit.int .i64 x.f3).wf = true) ∧ ((Lit.int .i64 x.f4).wf = true)
theorem opens23 : Opens Try.prog 23 k23 wf23 :=
  (opens_iso (fun a => (⟨a.1, a.2.1, a.2.2.1, a.2.2.2.1, a.2.2.2.2⟩ : S23)) (fun _ => rfl) (opens_array Try.underlying23 (by kernel_rfl) (by rw [show ((List.range 5).map fun i => (3, i * Try.prog.cellsOf 3)) = [(3, 0), (3, 1), (3, 2), (3, 3), (3, 4)] from by kernel_rfl]; exact opensF_cons (o := 0) (opens_int Try.underlying3) (by kernel_rfl) (opensF_cons (o := 1) (opens_int Try.underlying3) (by kernel_rfl) (opensF_cons (o := 2) (opens_int Try.underlying3) (by kernel_rfl) (opensF_cons (o := 3) (opens_int Try.underlying3) (by kernel_rfl) (opensF_one (o := 4) (opens_int Try.underlying3) (by kernel_rfl)))))))).mono (fun _ h => h)
def wf25 (x : S25) : Prop := ((Lit.int .i64 x.f0).wf = true) ∧ ((Lit.int .i64 x.f1).wf = true) ∧ ((Lit.int .i64 x.f2).wf = true) ∧ ((Lit.int .u64 x.f3).wf = true) ∧ (wf23 x.f4) ∧ ((Lit.int .i64 x.f5).wf = true)
theorem opens25 : Opens Try.prog 25 k25 wf25 :=
  (opens_iso (fun a => (⟨a.1, a.2.1, a.2.2.1, a.2.2.2.1, a.2.2.2.2.1, a.2.2.2.2.2⟩ : S25)) (fun _ => rfl) (opens_struct Try.underlying25 (by kernel_rfl) (show OpensF Try.prog [(3, 0), (3, 1), (3, 2), (22, 3), (23, 4), (3, 9)] 0 _ _ from opensF_cons (o := 0) (opens_int Try.underlying3) (by kernel_rfl) (opensF_cons (o := 1) (opens_int Try.underlying3) (by kernel_rfl) (opensF_cons (o := 2) (opens_int Try.underlying3) (by kernel_rfl) (opensF_cons (o := 3) (opens_int Try.underlying22) (by kernel_rfl) (opensF_cons (o := 4) opens23 (by kernel_rfl) (opensF_one (o := 9) (opens_int Try.underlying3) (by kernel_rfl))))))))).mono (fun _ h => h)
theorem okWide_str {P : Program} {w : World} {r : Reach} {base : Nat} {t : TypeId} {v : Value} {fs : Array Field} (ht : P.underlying t = some (.struct fs)) (h : Value.okWide P w r base t v) : ∃ cs, v = .agg cs := by
  simp only [Value.okWide, ht] at h
  obtain ⟨cs, h1, _⟩ := h
  exact ⟨cs, h1⟩
def escritoirelaw06_CardsBack.Pure : Prop := ∀ (a0 : S25) (l1 : List Int), (wf25 a0) → (l1.length ≤ 9223372036854775807 ∧ l1.length * 8 ≤ 140737488351232 ∧ ∀ x_ ∈ l1, (Lit.int .u64 x_).wf = true) → ∃ k, escritoirelaw06_CardsBack.f k (a0).f0 (a0).f1 (a0).f2 (a0).f3 (a0).f4.f0 (a0).f4.f1 (a0).f4.f2 (a0).f4.f3 (a0).f4.f4 (a0).f5 l1 = some true
end Go.Proofs.Ytdcmahndbmonbaa.Print
