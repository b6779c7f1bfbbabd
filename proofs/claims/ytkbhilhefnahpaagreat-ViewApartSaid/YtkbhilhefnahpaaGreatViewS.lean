/- A view's calls: Seen. -/
import Derived.Handy
import Derived.Shelf.SlIterI.Nil
import Derived.Shelf.SortM.Plain
import Derived.Shelf.SortM.SortNone
import Derived.Ground.GgzProg
import Derived.Ground.SlgmProg
import Derived.Test.YtkbhilhefnahpaaGreatViewX
namespace Go.Proofs.YtkbhilhefnahpaaGreat.Vw
open Go Go.RowKit Go.Maps Go.Sort Go.Shelf Go.Proofs.YtkbhilhefnahpaaGreat.ML Go.Proofs.YtkbhilhefnahpaaGreat.Mem Go.Proofs.YtkbhilhefnahpaaGreatW.PrintWords
set_option linter.unusedVariables false
set_option linter.unusedSimpArgs false
shelf_lay_g SlLaysZI.n7 Ggz 7 at Tryz 62 as Tryz.keysB
shelf_lay_g SlLaysZI.n6 Ggz 6 at Tryz 61 as Tryz.sortedB
shelf_lay_g SlLaysM.n5 Slgm 5 at Tryz 86 as Tryz.sortB
/-- slices.Sort's two contracts at this dump, at the fence that asks nothing. -/
theorem sortsB (m : Nat) : AnyZI.SortsIn Tryz.prog Tryz.sortedB_ren Fence.wide m :=
  ⟨fun blk off cap ss W hH hblk hsz => callsIn_wide.2 (AnyM.slices_Sort_int Tryz.sortB blk off cap ss W hH hblk hsz),
   fun p cap W => callsIn_wide.2 (AnyM.slices_Sort_int_none Tryz.sortB p cap W)⟩
theorem intKeys_B (m : List (Int × Bool)) : intKeys (ML.D ekb m) = m.map (·.1) := by
  simp [intKeys, ML.D, ent, Function.comp_def, Go.intOf]
theorem sorted_keysB {m : List (Int × Bool)} (h : Sorted m) {ss : List Int} (hp : ss.Perm (m.map (·.1))) : ss.mergeSort (fun x y => decide (x ≤ y)) = m.map (·.1) := by
  have h1 : (m.map (·.1)).Pairwise (fun x y => decide (x ≤ y) = true) := by
    rw [List.pairwise_map]
    exact h.imp fun hab => by simp; omega
  rw [show ss.mergeSort (fun x y => decide (x ≤ y)) = (m.map (·.1)).mergeSort (fun x y => decide (x ≤ y)) from mergeSort_of_perm_i hp]
  exact List.mergeSort_of_pairwise h1
set_option maxHeartbeats 1000000 in
theorem list_calls {w : World} {b : Nat} {m : List (Int × Bool)} (h : IsM ekb 3 w b m) (hl4 : m.length ≤ 4096) : Calls Tryz.prog 44 #[.map (some b)] w fun e w' => ∃ v : Value, e = .returned v ∧ Kd.R (Kd.int .i64) 3 w' w.heap.size (fun _ => True) v (m.map (·.1)) ∧ Below w.heap.size w w' := by
  have hown : w.ownsMap Tryz.prog 3 (plainElem Tryz.prog 4) b m.length (ML.D ekb m) := h
  have hsz := D_size ekb m
  have hmax : Maps.size (ML.D ekb m) ≤ maxLen := by rw [hsz]; unfold maxLen; omega
  have hbytes : Maps.size (ML.D ekb m) * 8 ≤ 140737488355328 := by rw [hsz]; omega
  refine (callsIn_wide (n := 6)).1 ?_
  have hbl := hown.lt
  have hseq : SeqGives Fence.wide 2 Tryz.prog 87 #[.pointer (some ⟨w.heap.size, 0, none⟩)] encZ (fun ss => ss.Perm (intKeys (ML.D ekb m))) (Maps.size (ML.D ekb m)) (w.alloc (.cells #[.map (some b)] 60)) :=
    AnyZI.keys_gives (ρ := Tryz.keysB_ren) { Tryz.keysB with } Fence.wide _ trivial rfl (by omega) w.heap.size b m.length (ML.D ekb m) _ (by simp) (by simp) (by
      obtain ⟨es, clock, hb, Ft, hs, hD⟩ := hown
      exact ⟨es, clock, (Below.heap_alloc _ _ b hbl).trans hb, Ft, hs, hD⟩)
  have cK : ∀ mb W, CallsIn Fence.wide 5 Tryz.prog 62 #[.map mb] W fun e w' => e = .returned (.func (.func 87) #[] #[.pointer (some ⟨W.heap.size, 0, none⟩)]) ∧ w' = W.alloc (.cells #[.map mb] 60) := fun mb W => AnyZI.keys_in Tryz.keysB Fence.wide 5 trivial rfl mb W
  have cS := AnyZI.sorted_in Tryz.sortedB Fence.wide 5 trivial trivial trivial trivial rfl (by omega) (sortsB _) (enters_of Tryz.func86 (by kernel_rfl) rfl) 87 #[.pointer (some ⟨w.heap.size, 0, none⟩)] trivial (enters_of Tryz.func87 (by kernel_rfl) rfl) _ _ hmax hbytes _ hseq
  change CallsIn _ _ Tryz.prog 61 _ _ _ at cS
  have HS := ze.mk (IsM.sorted nt h)
  have HC := ze.mk cS
  clear hown hsz hl4 hmax hbytes hbl hseq h cS
  have hfK : Fence.wide.fn 62 := trivial
  have hfS : Fence.wide.fn 61 := trivial
  refine callsIn_of_wp Tryz.func44 rfl trivial ?_ rfl
  simp only [Tryz.ntmps44, List.size_toArray, List.length_cons, List.length_nil, Nat.reduceAdd, Nat.reduceSub, Array.replicate_succ, Array.replicate_zero, List.push_toArray, List.append_toArray, List.nil_append, List.cons_append]
  gi_wp2_with (first
    | (gi_at_call 62; refine (cK _ _).mono ?_; rintro e w' ⟨rfl, rfl⟩)
    | (gi_at_call 61; refine HC.o.mono ?_; rintro e w' ⟨v, ss, rfl, hp, hrow, hnil, hb⟩; have HP := ze.mk hp; have HR := ze.mk hrow; have HB := ze.mk hb; clear hp hrow hnil hb))
  go_ret
  have hp := HP.o
  rw [intKeys_B] at hp
  have hsort := sorted_keysB HS.o hp
  have hl : ss.length = (m.map (·.1)).length := by rw [hp.length_eq]
  refine ⟨v, rfl, R_of_row ?_, ((Below.refl _ w).alloc (Nat.le_refl _) _).trans (HB.o.mono (by simp))⟩
  have hr := ownsRow_base_a HR.o (show w.heap.size ≤ _ by simp)
  rw [hsort, hl] at hr
  exact hr
set_option maxHeartbeats 400000 in
theorem Seen_calls {w : World} {q : Vp} {f : Fp} {V : VS} (h : zR w q f V) (hl : V.seen.length ≤ 4096) : Calls Tryz.prog 14 #[vptr q] w fun e w' => ∃ v : Value, e = .returned v ∧ Kd.R (Kd.int .i64) 3 w' w.heap.size (fun _ => True) v (V.seen.map (·.1)) ∧ Below w.heap.size w w' := by
  have c2 := h.facts.c2
  have HL := ze.mk (list_calls h.seen hl)
  clear h hl
  go_enter Tryz.func14, Tryz.ntmps14
  go_wp2_with (go_at_call 44; refine HL.o.mono ?_; rintro e w1 ⟨v, rfl, hR, hb⟩; have R1 := ze.mk hR; have B1 := ze.mk hb; clear hR hb)
  go_ret
  exact ⟨v, rfl, R1.o, B1.o⟩
end Go.Proofs.YtkbhilhefnahpaaGreat.Vw
