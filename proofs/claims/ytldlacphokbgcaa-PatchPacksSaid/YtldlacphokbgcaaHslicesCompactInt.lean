/- slices.Compact of a row of numbers of one's own: the same row, cut short. -/
import Derived.Test.YtldlacphokbgcaaPrint0
import Derived.WalkSpells
import Derived.Shelf.Lay
import Derived.Shelf.LaySoft
import Derived.Shelf.Slices.CompactI
import Derived.Sort.OwnSortedInts
namespace Go.Proofs.Ytldlacphokbgcaa.Print
open Go.RowKit Go.Proofs.YtldlacphokbgcaaW.PrintWords Go.Proofs.YtldlacphokbgcaaW.PrintLast Go.Proofs.YtldlacphokbgcaaW.PrintMore
open Go.Shelf Go.Sort Go.Lib
shelf_lay Lays2.n20 Nm2 20 at Try as Try.layCompact
theorem compact_len (xs : List Int) : (Lib.compact xs).length ≤ xs.length := by
  unfold Lib.compact Lib.compactUpTo
  rw [List.length_map]
  exact Nat.le_trans (List.length_filter_le _ _) (by simp)
theorem compact_own (xs : List Int) (v : Value) (w W : World) (HO : Kd.R (Kd.int .i64) 3 W w.heap.size (fun _ => True) v xs) (hlen : xs.length ≤ 1000000000000) (HB : Below w.heap.size w W) :
    Calls Try.prog 34 #[v] W fun e w' => ∃ v' : Value, e = .returned v' ∧ Kd.R (Kd.int .i64) 3 w' w.heap.size (fun _ => True) v' (Lib.compact xs) ∧ Below w.heap.size w w' := by
  have ho := Kd.own_of_R HO
  rcases ho.2 with ⟨rfl, hx⟩ | ⟨g, cap, cur, rfl, h1, h2, h3, h4, h5, h6⟩
  · have : xs = [] := List.eq_nil_of_length_eq_zero hx
    subst this
    refine (Any.slices_Compact_int_empty Try.layCompact none 0 W).mono ?_
    rintro e w' ⟨rfl, rfl⟩
    exact ⟨_, rfl, Kd.R_nil _ _ _ _ _, HB⟩
  · have hH : Holds (Value.int .i64) W g 0 xs.toArray := holds_of_blockI h2 (by simpa [encs] using h6)
    have hcs : cur.size = cap := by simpa using h5
    refine (Any.slices_Compact_int Try.layCompact g 0 cap xs W hH (by omega) h3).mono ?_
    rintro e w' ⟨rfl, q, rfl⟩
    have hgr : putRow (Value.int .i64) (Sort.ahead W q) g 0 (Lib.compact xs ++ List.replicate (xs.length - (Lib.compact xs).length) 0).toArray = grow (putRow (Value.int .i64) (Sort.ahead W q) g 0 (Lib.compact xs ++ List.replicate (xs.length - (Lib.compact xs).length) 0).toArray) #[] := by
      simp [grow]
      rfl
    have hcl := compact_len xs
    rw [hgr]
    refine ⟨_, rfl, ?_, HB.grown (grownBy_sortedI _) HB.size (fun k hk => by cases hk; exact h1)⟩
    have ho2 : (grow (putRow (Value.int .i64) (Sort.ahead W q) g 0 (Lib.compact xs ++ List.replicate (xs.length - (Lib.compact xs).length) 0).toArray) #[]).ownsRow w.heap.size 3 1 (.slice (some ⟨g, 0, none⟩) (Lib.compact xs).length cap) (Lib.compact xs).length (encs (Value.int .i64) (Lib.compact xs)) := by
      refine ⟨by simp [encs], .inr ⟨g, cap, _, rfl, h1, heap_sortedI _ h2, by omega, h4, by simp [putCells, hcs], ?_⟩⟩
      have ht := take_putCellsI cur (Lib.compact xs ++ List.replicate (xs.length - (Lib.compact xs).length) 0) (by simp; omega)
      have ht2 := congrArg (List.take (Lib.compact xs).length) ht
      rw [List.take_take, Nat.min_eq_left (by simp), List.map_append, List.take_left' (by simp)] at ht2
      rw [Nat.mul_one]
      simpa [encs] using ht2
    exact Kd.R_of_own (h1 := fun _ => rfl) ho2 (fun _ _ => trivial)
end Go.Proofs.Ytldlacphokbgcaa.Print
