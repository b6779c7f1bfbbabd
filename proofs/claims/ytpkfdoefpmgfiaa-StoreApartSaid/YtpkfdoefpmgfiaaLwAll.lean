/- All blocks and all numbers of a new memory can be taken. -/
import Derived.Test.YtpkfdoefpmgfiaaLwA
namespace Go.Proofs.Ytpkfdoefpmgfiaa.Sto
open Go Go.RowKit Go.Proofs.Ytpkfdoefpmgfiaa.ML Go.Proofs.Ytpkfdoefpmgfiaa.Mem Go.Proofs.Ytpkfdoefpmgfiaa.Vw Go.Proofs.Ytpkfdoefpmgfiaa.Print Go.Proofs.YtpkfdoefpmgfiaaW.PrintWords Go.Proofs.YtpkfdoefpmgfiaaW.PrintLast Go.Proofs.YtpkfdoefpmgfiaaW.PrintMore
set_option linter.unusedVariables false
set_option linter.unusedSimpArgs false
theorem count_from (n : Nat) : ∀ m : Nat, ((List.range m).filter fun b => decide (n ≤ b)).length = m - n := by
  intro m
  induction m with
  | zero => simp
  | succ m ih =>
    rw [List.range_succ, List.filter_append, List.length_append, ih]
    by_cases h : n ≤ m <;> simp [h] <;> omega
structure AllB (V : VS) (S : MS) (k : Nat) : Prop where
  fr : ∀ i : Int, V.fresh S i = decide ((k : Int) ≤ i ∧ i < 96)
  us : ∀ j : Int, 0 ≤ j ∧ j < 24 → VS.usedN V S j = false
theorem AllB.new {S : MS} (h : Clean S) : AllB newV S 0 := ⟨fun i => fresh_new h i, fun j hj => used_new h j hj⟩
theorem AllB.step {V : VS} {S : MS} {k : Nat} (h : AllB V S k) (hk : k < 96) (n : Int) (hn : 0 ≤ n) : AllB (VS.take V k n) S (k + 1) := by
  refine ⟨fun i => ?_, fun j hj => by rw [used_take _ _ _ _ _ (by omega) hj]; exact h.us j hj⟩
  rw [fresh_take _ _ _ _ _ (by omega) hn, h.fr, Bool.eq_iff_iff]
  simp
  omega
theorem AllB.free {V : VS} {S : MS} {k : Nat} (h : AllB V S k) : VS.free V S 96 = 96 - k := by
  rw [free_of _ _ (fun b => decide (k ≤ b)) 96 (fun b hb => by rw [h.fr, Bool.eq_iff_iff]; simp; omega), count_from]
theorem fresh_see (V : VS) (S : MS) (i j : Int) : (V.see i).fresh S j = V.fresh S j := rfl
theorem used_see (V : VS) (S : MS) (i j : Int) : VS.usedN (V.see i) S j = VS.usedN V S j := rfl
structure AllN (V : VS) (S : MS) (k : Nat) : Prop where
  fr : ∀ i : Int, V.fresh S i = false
  us : ∀ j : Int, 0 ≤ j ∧ j < 24 → VS.usedN V S j = decide (2 ≤ j ∧ j < (k : Int))
theorem AllB.last {V : VS} {S : MS} (h : AllB V S 96) : AllN V S 2 :=
  ⟨fun i => by rw [h.fr]; exact decide_eq_false (by omega), fun j hj => by rw [h.us j hj]; exact (decide_eq_false (by omega)).symm⟩
theorem AllN.step {V : VS} {S : MS} {k : Nat} (h : AllN V S k) (h2 : 2 ≤ k) (hk : k < 24) (kd : Int) (hkd : kd = 1 ∨ kd = 2 ∨ kd = 3) : AllN ((VS.node V S k kd).see k) S (k + 1) := by
  refine ⟨fun i => by rw [fresh_see, fresh_node _ _ _ _ _ (by omega)]; exact h.fr i, fun j hj => ?_⟩
  rw [used_see, used_node _ _ _ _ _ hkd, h.us j hj, Bool.eq_iff_iff]
  simp
  omega
end Go.Proofs.Ytpkfdoefpmgfiaa.Sto
