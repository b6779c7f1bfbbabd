/- What the bound of an upto statement gives: a slice's length. -/
import Derived.Test.YtldlacphokbgcaaPrint0
import Derived.Test.YtldlacphokbgcaaRows
import Derived.Deep.Slices
import Derived.ChangeArms
namespace Go.Proofs.Ytldlacphokbgcaa.Print
open Go.RowKit Go.Proofs.YtldlacphokbgcaaW.PrintWords Go.Proofs.YtldlacphokbgcaaW.PrintLast Go.Proofs.YtldlacphokbgcaaW.PrintMore
theorem bulk_one {H : Type} (d : DataW H) : 1 ≤ Rows.uptoBulk d := by
  cases d with
  | lit l => cases l <;> simp [Rows.uptoBulk]
  | nil => simp [Rows.uptoBulk]
  | ptr d => simp [Rows.uptoBulk]
  | slice elems spare => simp [Rows.uptoBulk]
  | agg parts => simp [Rows.uptoBulk]
  | iface t d => simp [Rows.uptoBulk]
  | map entries => simp [Rows.uptoBulk]
  | held h => simp [Rows.uptoBulk]
theorem bulk_length {H : Type} (l : List (DataW H)) : l.length ≤ Rows.uptoBulkAll l := by
  induction l with
  | nil => simp [Rows.uptoBulkAll]
  | cons x r ih => have := bulk_one x; simp only [Rows.uptoBulkAll, List.length_cons]; omega
theorem bulk_slice {P : Program} {H : Type} {enc : TypeId × Value → H} {w : World} {base : Nat} {spare : Nat → Bool} {held : Bool} {fuel : Nat} {t e : TypeId} {A : Option Addr} {n c : Nat} {x : DataW H × List MemPlace} (hu : P.underlying t = some (.slice e))
    (h : DataW.trod enc P w base spare held fuel t [.slice A n c] = some x) : n ≤ Rows.uptoBulk x.1 := by
  rcases DataW.trod_slice hu h with ⟨h0, rfl⟩ | ⟨a, len, cap, elems, rest, n', _, h0, rfl, _, _, _, hlen, _⟩
  · injection h0 with h0
    injection h0 with _ h1
    omega
  · injection h0 with h0
    injection h0 with _ h1
    have h2 := bulk_length (elems.map (·.1))
    rw [List.length_map] at h2
    simp only [Rows.uptoBulk]
    omega
end Go.Proofs.Ytldlacphokbgcaa.Print
