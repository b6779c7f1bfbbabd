-- Made by wip/tools/wprint.py, a program of this workplace, over the translation. Lean checks it.
import Derived.Test.YtmbpaienbmbhfaaDoorHOpens
import Derived.WideShapes
import Derived.Test.YtmbpaienbmbhfaaDoorPrint5
import Derived.Test.YtmbpaienbmbhfaaDoorPrint7
import Derived.Test.YtmbpaienbmbhfaaDoorPrint8
namespace Go.Proofs.YtmbpaienbmbhfaaDoor.Print
open Go.RowKit Go.WideShapes Go.Proofs.YtmbpaienbmbhfaaDoorW.PrintWords Go.Proofs.YtmbpaienbmbhfaaDoorW.PrintLast
theorem okWide_str {P : Program} {w : World} {r : Reach} {base : Nat} {t : TypeId} {v : Value} {fs : Array Field} (ht : P.underlying t = some (.struct fs)) (h : Value.okWide P w r base t v) : ∃ cs, v = .agg cs := by
  simp only [Value.okWide, ht] at h
  obtain ⟨cs, h1, _⟩ := h
  exact ⟨cs, h1⟩
theorem okWide_arr {P : Program} {w : World} {r : Reach} {base : Nat} {t e : TypeId} {n : Nat} {v : Value} (ht : P.underlying t = some (.array n e)) (h : Value.okWide P w r base t v) : ∃ cs, v = .agg cs := by
  simp only [Value.okWide, ht] at h
  obtain ⟨cs, h1, _⟩ := h
  exact ⟨cs, h1⟩
def escritoirelaw04_NamesPaths.Pure : Prop := ∀ (a0 : ByteArray) (a1 : ByteArray), ((a0.size ≤ 140737488351232) ∧ a0.size ≤ 1048576) → ((a1.size ≤ 140737488351232) ∧ a1.size ≤ 1048576) → ∃ k, escritoirelaw04_NamesPaths.f k a0 a1 = some true
def escritoirelaw04_NamesBack.Pure : Prop := ∀ (a0 : ByteArray), (a0.size ≤ 140737488351232) → ∃ k, escritoirelaw04_NamesBack.f k a0 = some true
def escritoirelaw04_NamesParents.Pure : Prop := ∀ (a0 : ByteArray) (a1 : ByteArray) (a2 : Int), ((a0.size ≤ 140737488351232) ∧ a0.size ≤ 1048576) → ((a1.size ≤ 140737488351232) ∧ a1.size ≤ 1048576) → (((Lit.int .i64 a2).wf = true) ∧ True) → ∃ k, escritoirelaw04_NamesParents.f k a0 a1 a2 = some true
def escritoirelaw04_NamesBuckets.Pure : Prop := ∀ (a0 : ByteArray) (a1 : Int), (a0.size ≤ 140737488351232) → ((Lit.int .i64 a1).wf = true) → ∃ k, escritoirelaw04_NamesBuckets.f k a0 a1 = some true
def escritoirelaw04_NamesJoin.Pure : Prop := ∀ (l0 : List ByteArray) (l1 : List ByteArray), ((l0.length ≤ 9223372036854775807 ∧ l0.length * 16 ≤ 140737488351232 ∧ ∀ x_ ∈ l0, x_.size ≤ 140737488351232) ∧ l0.length ≤ 1048576 ∧ (l0.map ByteArray.size).sum ≤ 1048576) → ((l1.length ≤ 9223372036854775807 ∧ l1.length * 16 ≤ 140737488351232 ∧ ∀ x_ ∈ l1, x_.size ≤ 140737488351232) ∧ l1.length ≤ 1048576 ∧ (l1.map ByteArray.size).sum ≤ 1048576) → ∃ k, escritoirelaw04_NamesJoin.f k l0 l1 = some true
end Go.Proofs.YtmbpaienbmbhfaaDoor.Print
