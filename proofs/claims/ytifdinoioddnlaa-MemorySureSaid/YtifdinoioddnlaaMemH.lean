/- A memory's calls: Loose. -/
import Derived.Handy
import Derived.Shelf.SlIterI.Nil
import Derived.Shelf.SortM.Plain
import Derived.Shelf.SortM.SortNone
import Derived.Ground.GgzProg
import Derived.Ground.SlgmProg
import Derived.Test.YtifdinoioddnlaaMemG
namespace Go.Proofs.Ytifdinoioddnlaa.Mem
open Go Go.RowKit Go.Maps Go.Sort Go.Shelf Go.Proofs.Ytifdinoioddnlaa.ML Go.Proofs.YtifdinoioddnlaaW.PrintWords
set_option linter.unusedVariables false
set_option linter.unusedSimpArgs false
shelf_lay_g SlLaysZI.n7 Ggz 7 at Try 30 as Try.keysA
shelf_lay_g SlLaysZI.n6 Ggz 6 at Try 29 as Try.sortedA
shelf_lay_g SlLaysM.n5 Slgm 5 at Try 33 as Try.sortA
/-- slices.Sort's two contracts at this dump, at the fence that asks nothing. -/
theorem sortsA (m : Nat) : AnyZI.SortsIn Try.prog Try.sortedA_ren Fence.wide m :=
  ⟨fun blk off cap ss W hH hblk hsz => callsIn_wide.2 (AnyM.slices_Sort_int Try.sortA blk off cap ss W hH hblk hsz),
   fun p cap W => callsIn_wide.2 (AnyM.slices_Sort_int_none Try.sortA p cap W)⟩
theorem intKeys_D (m : List (Int × Int)) : intKeys (ML.D ek m) = m.map (·.1) := by
  simp [intKeys, ML.D, ent, Function.comp_def, Go.intOf]
theorem sorted_keys {m : List (Int × Int)} (h : Sorted m) {ss : List Int} (hp : ss.Perm (m.map (·.1))) : ss.mergeSort (fun x y => decide (x ≤ y)) = m.map (·.1) := by
  have h1 : (m.map (·.1)).Pairwise (fun x y => decide (x ≤ y) = true) := by
    rw [List.pairwise_map]
    exact h.imp fun hab => by simp; omega
  rw [show ss.mergeSort (fun x y => decide (x ≤ y)) = (m.map (·.1)).mergeSort (fun x y => decide (x ≤ y)) from mergeSort_of_perm_i hp]
  exact List.mergeSort_of_pairwise h1
def MS.keys (S : MS) : List Int := S.looseM.map (·.1)
set_option maxHeartbeats 1000000 in
theorem Loose_calls {w : World} {f : Fp} {S : MS} (h : IsMem w f S) : Calls Try.prog 17 #[ptr f] w fun e w' => ∃ v : Value, e = .returned v ∧ Kd.R (Kd.int .i64) 3 w' w.heap.size (fun _ => True) v S.keys ∧ Below w.heap.size w w' := by
  obtain ⟨A, cap, HF, hrow⟩ := h.facts
  have c1 := HF.c1
  have hown : w.ownsMap Try.prog 3 (plainElem Try.prog 31) f.bl S.looseM.length (ML.D ek S.looseM) := h.loose
  have hsz := D_size ek S.looseM
  have hll := S.loose_len
  have hlen := h.ok.len
  have hmax : Maps.size (ML.D ek S.looseM) ≤ maxLen := by rw [hsz]; unfold maxLen; omega
  have hbytes : Maps.size (ML.D ek S.looseM) * 8 ≤ 140737488355328 := by rw [hsz]; omega
  refine (callsIn_wide (n := 6)).1 ?_
  have hbl := hown.lt
  have hseq : SeqGives Fence.wide 2 Try.prog 34 #[.pointer (some ⟨w.heap.size, 0, none⟩)] encZ (fun ss => ss.Perm (intKeys (ML.D ek S.looseM))) (Maps.size (ML.D ek S.looseM)) (w.alloc (.cells #[.map (some f.bl)] 55)) :=
    AnyZI.keys_gives (ρ := Try.keysA_ren) { Try.keysA with } Fence.wide _ trivial rfl (by omega) w.heap.size f.bl S.looseM.length (ML.D ek S.looseM) _ (by simp) (by simp) (by
      obtain ⟨es, clock, hb, Ft, hs, hD⟩ := hown
      exact ⟨es, clock, (Below.heap_alloc _ _ f.bl hbl).trans hb, Ft, hs, hD⟩)
  have cK : ∀ mb W, CallsIn Fence.wide 5 Try.prog 30 #[.map mb] W fun e w' => e = .returned (.func (.func 34) #[] #[.pointer (some ⟨W.heap.size, 0, none⟩)]) ∧ w' = W.alloc (.cells #[.map mb] 55) := fun mb W => AnyZI.keys_in Try.keysA Fence.wide 5 trivial rfl mb W
  have cS := AnyZI.sorted_in Try.sortedA Fence.wide 5 trivial trivial trivial trivial rfl (by omega) (sortsA _) (enters_of Try.func33 (by kernel_rfl) rfl) 34 #[.pointer (some ⟨w.heap.size, 0, none⟩)] trivial (enters_of Try.func34 (by kernel_rfl) rfl) _ _ hmax hbytes _ hseq
  change CallsIn _ _ Try.prog 29 _ _ _ at cS
  have hs := pick_sorted (g := Cell.loose) S.ws 0
  have HS := Aside0.mk hs
  have HC := Aside0.mk cS
  clear hown hsz hll hlen hmax hbytes hbl hseq HF hrow h hs cS
  have hfK : Fence.wide.fn 30 := trivial
  have hfS : Fence.wide.fn 29 := trivial
  refine callsIn_of_wp Try.func17 rfl trivial ?_ rfl
  simp only [Try.ntmps17, List.size_toArray, List.length_cons, List.length_nil, Nat.reduceAdd, Nat.reduceSub, Array.replicate_succ, Array.replicate_zero, List.push_toArray, List.append_toArray, List.nil_append, List.cons_append]
  gi_wp2_with (first
    | (gi_at_call 30; refine (cK _ _).mono ?_; rintro e w' ⟨rfl, rfl⟩)
    | (gi_at_call 29; refine HC.out.mono ?_; rintro e w' ⟨v, ss, rfl, hp, hrow, hnil, hb⟩; have HP := Aside0.mk hp; have HR := Aside0.mk hrow; have HB := Aside0.mk hb; clear hp hrow hnil hb))
  go_ret
  have hp := HP.out
  rw [intKeys_D] at hp
  have hsort := sorted_keys HS.out hp
  have hl : ss.length = S.keys.length := by rw [hp.length_eq]; rfl
  refine ⟨v, rfl, R_of_row ?_, ((Below.refl _ w).alloc (Nat.le_refl _) _).trans (HB.out.mono (by simp))⟩
  have hr := ownsRow_base_a HR.out (show w.heap.size ≤ _ by simp)
  rw [hsort, hl] at hr
  exact hr
set_option maxHeartbeats 400000 in
theorem Loose_nil (w : World) : Calls Try.prog 17 #[.pointer none] w fun e w' => e = .returned (.slice none 0 0) ∧ w = w' := by
  go_enter Try.func17, Try.ntmps17
  go_wp2
  go_ret
  exact ⟨rfl, rfl⟩
end Go.Proofs.Ytifdinoioddnlaa.Mem
