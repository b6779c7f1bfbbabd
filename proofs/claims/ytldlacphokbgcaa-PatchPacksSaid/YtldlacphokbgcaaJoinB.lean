/- Two patches as one: the keys, sorted. -/
import Derived.Test.YtldlacphokbgcaaJoinA
namespace Go.Proofs.Ytldlacphokbgcaa.Jo
open Go Go.Maps Go.Sort Go.Shelf Go.RowKit Go.Proofs.Ytldlacphokbgcaa.ML Go.Proofs.Ytldlacphokbgcaa.Print Go.Proofs.YtldlacphokbgcaaW.PrintWords Go.Proofs.YtldlacphokbgcaaW.PrintLast Go.Proofs.YtldlacphokbgcaaW.PrintMore
set_option linter.unusedVariables false
set_option linter.unusedSimpArgs false
shelf_lay_g SlLaysZI.n7 Ggz 7 at Try 33 as Try.keysA
shelf_lay_g SlLaysZI.n6 Ggz 6 at Try 32 as Try.sortedA
shelf_lay_g SlLaysM.n5 Slgm 5 at Try 37 as Try.sortA
theorem sortsA (m : Nat) : AnyZI.SortsIn Try.prog Try.sortedA_ren Fence.wide m :=
  ⟨fun blk off cap ss W hH hblk hsz => callsIn_wide.2 (AnyM.slices_Sort_int Try.sortA blk off cap ss W hH hblk hsz),
   fun p cap W => callsIn_wide.2 (AnyM.slices_Sort_int_none Try.sortA p cap W)⟩
theorem intKeys_D (m : List (Int × Int)) : intKeys (ML.D ekU m) = m.map (·.1) := by
  show List.map _ (List.map _ m) = _
  rw [List.map_map]
  rfl
theorem sorted_keys {m : List (Int × Int)} (hs : ML.Sorted m) {ss : List Int} (h : ss.Perm (m.map (·.1))) : ss.mergeSort (fun x y => decide (x ≤ y)) = m.map (·.1) := by
  have e := mergeSort_of_perm_i h
  have hp : (m.map (·.1)).Pairwise fun a b : Int => (fun x y => decide (x ≤ y)) a b = true := by
    rw [List.pairwise_map]
    exact List.Pairwise.imp (fun h => by simp; omega) hs
  exact e.trans (List.mergeSort_of_pairwise hp)
theorem Keys_calls (b : Nat) (w : World) : Calls Try.prog 33 #[.map (some b)] w fun e w' => e = .returned (.func (.func 38) #[] #[.pointer (some ⟨w.heap.size, 0, none⟩)]) ∧ w' = w.alloc (.cells #[.map (some b)] 48) :=
  (callsIn_wide (n := 5)).1 (AnyZI.keys_in Try.keysA Fence.wide 5 trivial rfl (some b) w)
theorem Sorted_calls {w : World} {g b : Nat} {m : List (Int × Int)} (hg : w.heap[g]? = some (.cells #[.map (some b)] 48 (0, 0))) (hm : IsM ekU 3 w b m) (hs : ML.Sorted m) (hn : m.length ≤ 1000000) :
    Calls Try.prog 32 #[.func (.func 38) #[] #[.pointer (some ⟨g, 0, none⟩)]] w fun e w' => ∃ v, e = .returned v ∧ Kd.R (Kd.int .i64) 3 w' w.heap.size (fun _ => True) v (m.map (·.1)) ∧ Below w.heap.size w w' := by
  have hseq : SeqGives Fence.wide 2 Try.prog 38 #[.pointer (some ⟨g, 0, none⟩)] encZ (fun ss => ss.Perm (intKeys (ML.D ekU m))) (Maps.size (ML.D ekU m)) w :=
    AnyZI.keys_gives (ρ := Try.keysA_ren) { Try.keysA with } Fence.wide _ trivial rfl (by omega) g b m.length (ML.D ekU m) w (blk_lt hg) ((blk_cell hg 0).trans rfl) hm
  have hz : Maps.size (ML.D ekU m) = m.length := ML.D_size ekU m
  have cS := AnyZI.sorted_in Try.sortedA Fence.wide 5 trivial trivial trivial trivial rfl (by omega) (sortsA _) (enters_of Try.func37 (by kernel_rfl) rfl) 38 #[.pointer (some ⟨g, 0, none⟩)] trivial (enters_of Try.func38 (by kernel_rfl) rfl) _ _ (by rw [hz]; unfold maxLen; omega) (by rw [hz]; omega) _ hseq
  refine ((callsIn_wide (n := 5)).1 cS).mono ?_
  rintro e w' ⟨v, ss, rfl, hp, ho, hnil, hb⟩
  rw [intKeys_D] at hp
  rw [sorted_keys hs hp] at ho
  have hl : ss.length = (m.map (·.1)).length := hp.length_eq
  rw [hl] at ho
  exact ⟨v, rfl, Kd.R_of_own ho (fun _ _ => trivial), hb⟩
end Go.Proofs.Ytldlacphokbgcaa.Jo
