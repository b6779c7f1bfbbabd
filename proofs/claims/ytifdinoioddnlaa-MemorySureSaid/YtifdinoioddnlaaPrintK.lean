-- Made by wip/tools/wprint.py, a program of this workplace, over the translation. Lean checks it.
import Derived.Test.YtifdinoioddnlaaHOpens
import Derived.WideShapes
import Derived.Test.YtifdinoioddnlaaHrowMemoryFlushes
import Derived.Test.YtifdinoioddnlaaHrowMemoryKeeps
import Derived.Test.YtifdinoioddnlaaHrowMemoryLoads
import Derived.Test.YtifdinoioddnlaaHrowMemoryNil
import Derived.Test.YtifdinoioddnlaaHrowMemoryStops
import Derived.Test.YtifdinoioddnlaaHrowMemorySure
namespace Go.Proofs.Ytifdinoioddnlaa.Print
open Go.RowKit Go.WideShapes Go.Proofs.YtifdinoioddnlaaW.PrintWords Go.Proofs.YtifdinoioddnlaaW.PrintLast
def wf40 (x : S40) : Prop := ((Lit.int .i64 x.f0).wf = true) ∧ ((Lit.int .i64 x.f1).wf = true) ∧ ((Lit.int .u64 x.f2).wf = true) ∧ (x.f3.length ≤ 9223372036854775807 ∧ x.f3.length * 1 ≤ 140737488351232 ∧ ∀ x_ ∈ x.f3, True)
theorem opens40 : Opens Try.prog 40 k40 wf40 :=
  (opens_iso (fun a => (⟨a.1, a.2.1, a.2.2.1, a.2.2.2⟩ : S40)) (fun _ => rfl) (opens_struct Try.underlying40 (by kernel_rfl) (show OpensF Try.prog [(3, 0), (3, 1), (31, 2), (37, 3)] 0 _ _ from opensF_cons (o := 0) (opens_int Try.underlying3) (by kernel_rfl) (opensF_cons (o := 1) (opens_int Try.underlying3) (by kernel_rfl) (opensF_cons (o := 2) (opens_int Try.underlying31) (by kernel_rfl) (opensF_one (o := 3) (opens_slice 1 Try.underlying37 (by kernel_rfl) (by kernel_rfl) (opens_bool Try.underlying4)) (by kernel_rfl))))))).mono (fun _ h => h)
theorem okWide_str {P : Program} {w : World} {r : Reach} {base : Nat} {t : TypeId} {v : Value} {fs : Array Field} (ht : P.underlying t = some (.struct fs)) (h : Value.okWide P w r base t v) : ∃ cs, v = .agg cs := by
  simp only [Value.okWide, ht] at h
  obtain ⟨cs, h1, _⟩ := h
  exact ⟨cs, h1⟩
theorem okWide_arr {P : Program} {w : World} {r : Reach} {base : Nat} {t e : TypeId} {n : Nat} {v : Value} (ht : P.underlying t = some (.array n e)) (h : Value.okWide P w r base t v) : ∃ cs, v = .agg cs := by
  simp only [Value.okWide, ht] at h
  obtain ⟨cs, h1, _⟩ := h
  exact ⟨cs, h1⟩
def escritoirelaw02_MemoryLoads.Pure : Prop := ∀ (l0 : List Int) (a1 : Int), (l0.length ≤ 9223372036854775807 ∧ l0.length * 8 ≤ 140737488351232 ∧ ∀ x_ ∈ l0, (Lit.int .u64 x_).wf = true) → ((Lit.int .i64 a1).wf = true) → escritoirelaw02_MemoryLoads.f l0 a1 = some true
def escritoirelaw02_MemorySure.Pure : Prop := ∀ (l0 : List (S40)) (l1 : List (S40)) (l2 : List Bool), (l0.length ≤ 9223372036854775807 ∧ l0.length * 48 ≤ 140737488351232 ∧ ∀ x_ ∈ l0, wf40 x_) → (l1.length ≤ 9223372036854775807 ∧ l1.length * 48 ≤ 140737488351232 ∧ ∀ x_ ∈ l1, wf40 x_) → (l2.length ≤ 9223372036854775807 ∧ l2.length * 1 ≤ 140737488351232 ∧ ∀ x_ ∈ l2, True) → escritoirelaw02_MemorySure.f l0 l1 l2 = some true
def escritoirelaw02_MemoryStops.Pure : Prop := ∀ (l0 : List (S40)) (a1 : Int), (l0.length ≤ 9223372036854775807 ∧ l0.length * 48 ≤ 140737488351232 ∧ ∀ x_ ∈ l0, wf40 x_) → ((Lit.int .i64 a1).wf = true) → escritoirelaw02_MemoryStops.f l0 a1 = some true
def escritoirelaw02_MemoryNil.Pure : Prop := ∀ (a0 : S40), (wf40 a0) → escritoirelaw02_MemoryNil.f (a0).f0 (a0).f1 (a0).f2 (a0).f3 = some true
def escritoirelaw02_MemoryKeeps.Pure : Prop := ∀ (l0 : List (S40)), (l0.length ≤ 9223372036854775807 ∧ l0.length * 48 ≤ 140737488351232 ∧ ∀ x_ ∈ l0, wf40 x_) → escritoirelaw02_MemoryKeeps.f l0 = some true
def escritoirelaw02_MemoryFlushes.Pure : Prop := ∀ (l0 : List (S40)), (l0.length ≤ 9223372036854775807 ∧ l0.length * 48 ≤ 140737488351232 ∧ ∀ x_ ∈ l0, wf40 x_) → escritoirelaw02_MemoryFlushes.f l0 = some true
end Go.Proofs.Ytifdinoioddnlaa.Print
