-- Made by wip/tools/wprint.py, a program of this workplace, over the translation. Lean checks it.
import Derived.Test.YtkjmhijgjllnbaaHOpens
import Derived.WideShapes
import Derived.Test.YtkjmhijgjllnbaaPrint3
import Derived.Test.YtkjmhijgjllnbaaPrint4
import Derived.Test.YtkjmhijgjllnbaaPrint6
namespace Go.Proofs.Ytkjmhijgjllnbaa.Print
open Go.RowKit Go.WideShapes Go.Proofs.YtkjmhijgjllnbaaW.PrintWords Go.Proofs.YtkjmhijgjllnbaaW.PrintLast
def wf26 (x : S26) : Prop := ((Lit.int .i64 x.f0).wf = true) ∧ ((Lit.int .i64 x.f1).wf = true)
theorem opens26 : Opens Try.prog 26 k26 wf26 :=
  (opens_iso (fun a => (⟨a.1, a.2⟩ : S26)) (fun _ => rfl) (opens_array Try.underlying26 (by kernel_rfl) (by rw [show ((List.range 2).map fun i => (3, i * Try.prog.cellsOf 3)) = [(3, 0), (3, 1)] from by kernel_rfl]; exact opensF_cons (o := 0) (opens_int Try.underlying3) (by kernel_rfl) (opensF_one (o := 1) (opens_int Try.underlying3) (by kernel_rfl))))).mono (fun _ h => h)
def wf32 (x : S32) : Prop := ((Lit.int .i64 x.f0).wf = true) ∧ ((Lit.int .i64 x.f1).wf = true) ∧ ((Lit.int .i64 x.f2).wf = true) ∧ ((Lit.int .i64 x.f3).wf = true)
theorem opens32 : Opens Try.prog 32 k32 wf32 :=
  (opens_iso (fun a => (⟨a.1, a.2.1, a.2.2.1, a.2.2.2⟩ : S32)) (fun _ => rfl) (opens_array Try.underlying32 (by kernel_rfl) (by rw [show ((List.range 4).map fun i => (3, i * Try.prog.cellsOf 3)) = [(3, 0), (3, 1), (3, 2), (3, 3)] from by kernel_rfl]; exact opensF_cons (o := 0) (opens_int Try.underlying3) (by kernel_rfl) (opensF_cons (o := 1) (opens_int Try.underlying3) (by kernel_rfl) (opensF_cons (o := 2) (opens_int Try.underlying3) (by kernel_rfl) (opensF_one (o := 3) (opens_int Try.underlying3) (by kernel_rfl))))))).mono (fun _ h => h)
theorem okWide_str {P : Program} {w : World} {r : Reach} {base : Nat} {t : TypeId} {v : Value} {fs : Array Field} (ht : P.underlying t = some (.struct fs)) (h : Value.okWide P w r base t v) : ∃ cs, v = .agg cs := by
  simp only [Value.okWide, ht] at h
  obtain ⟨cs, h1, _⟩ := h
  exact ⟨cs, h1⟩
theorem okWide_arr {P : Program} {w : World} {r : Reach} {base : Nat} {t e : TypeId} {n : Nat} {v : Value} (ht : P.underlying t = some (.array n e)) (h : Value.okWide P w r base t v) : ∃ cs, v = .agg cs := by
  simp only [Value.okWide, ht] at h
  obtain ⟨cs, h1, _⟩ := h
  exact ⟨cs, h1⟩
def escritoirelaw01_WordsHash.Pure : Prop := ∀ (a0 : ByteArray) (a1 : ByteArray) (a2 : ByteArray), (a0.size ≤ 140737488351232) → (a1.size ≤ 140737488351232) → (a2.size ≤ 140737488351232) → escritoirelaw01_WordsHash.f a0 a1 a2 = some true
def escritoirelaw01_WordsFields.Pure : Prop := ∀ (a0 : Int) (a1 : S26) (a2 : Int), ((Lit.int .u64 a0).wf = true) → (wf26 a1) → ((Lit.int .u64 a2).wf = true) → ∃ k, escritoirelaw01_WordsFields.f k a0 (a1).f0 (a1).f1 a2 = some true
def escritoirelaw01_WordsBack.Pure : Prop := ∀ (a0 : Int) (a1 : S32) (a2 : Int), ((Lit.int .u64 a0).wf = true) → (wf32 a1) → ((Lit.int .u64 a2).wf = true) → ∃ k, escritoirelaw01_WordsBack.f k a0 (a1).f0 (a1).f1 (a1).f2 (a1).f3 a2 = some true
def escritoirelaw01_WordsWhole.Pure : Prop := ∀ (a0 : Int) (a1 : Int), ((Lit.int .u64 a0).wf = true) → ((Lit.int .i64 a1).wf = true) → escritoirelaw01_WordsWhole.f a0 a1 = some true
def escritoirelaw01_WordsTexts.Pure : Prop := ∀ (a0 : ByteArray) (a1 : Int) (l2 : List Int), (a0.size ≤ 140737488351232) → ((Lit.int .i64 a1).wf = true) → (l2.length ≤ 9223372036854775807 ∧ l2.length * 8 ≤ 140737488351232 ∧ ∀ x_ ∈ l2, (Lit.int .u64 x_).wf = true) → ∃ k, escritoirelaw01_WordsTexts.f k a0 a1 l2 = some true
def escritoirelaw01_WordsTextBack.Pure : Prop := ∀ (a0 : ByteArray) (a1 : Int) (l2 : List Int), (a0.size ≤ 140737488351232) → ((Lit.int .i64 a1).wf = true) → (l2.length ≤ 9223372036854775807 ∧ l2.length * 8 ≤ 140737488351232 ∧ ∀ x_ ∈ l2, (Lit.int .u64 x_).wf = true) → ∃ k, escritoirelaw01_WordsTextBack.f k a0 a1 l2 = some true
end Go.Proofs.Ytkjmhijgjllnbaa.Print
