/- Rows that are turned, and merged: the plain law. -/
import Derived.Test.YtngncegokmppiaaFloV
namespace Go.Proofs.Ytngncegokmppiaa.Flo
open Go
set_option linter.unusedVariables false
set_option linter.unusedSimpArgs false
theorem set_app {α : Type} (P Q : List α) (x y : α) : (P ++ x :: Q).set P.length y = P ++ y :: Q := by
  rw [List.set_append_right _ _ (Nat.le_refl _), Nat.sub_self]
  rfl
theorem set_at {α : Type} (P Q : List α) (x y : α) (n : Nat) (h : P.length = n) : (P ++ x :: Q).set n y = P ++ y :: Q := by
  subst h
  exact set_app P Q x y
theorem get_at {α : Type} (P Q : List α) (x : α) (n : Nat) (h : P.length = n) : (P ++ x :: Q)[n]? = some x := by
  subst h
  rw [List.getElem?_append_right (Nat.le_refl _), Nat.sub_self]
  rfl
/-- Two places that are exchanged. -/
theorem swap_two {α : Type} (P M Q : List α) (x y : α) (i j : Nat) (hi : P.length = i) (hj : P.length + 1 + M.length = j) :
    ((P ++ x :: M ++ y :: Q).set i y).set j x = P ++ y :: M ++ x :: Q := by
  rw [List.append_assoc, List.cons_append, set_at P _ x y i hi]
  have e : P ++ y :: (M ++ y :: Q) = (P ++ y :: M) ++ y :: Q := by simp
  rw [e, set_at _ _ _ _ j (by simp; omega)]
theorem get_two {α : Type} (P M Q : List α) (x y : α) (i j : Nat) (hi : P.length = i) (hj : P.length + 1 + M.length = j) :
    (P ++ x :: M ++ y :: Q)[i]? = some x ∧ (P ++ x :: M ++ y :: Q)[j]? = some y := by
  constructor
  · rw [List.append_assoc, List.cons_append]
    exact get_at P _ x i hi
  · exact get_at _ Q y j (by simp; omega)
def Srt (l : List Nat) : Prop := l.Pairwise fun x y => key x ≤ key y
theorem Srt.app {a b : List Nat} : Srt (a ++ b) ↔ Srt a ∧ Srt b ∧ ∀ x ∈ a, ∀ y ∈ b, key x ≤ key y := List.pairwise_append
theorem srt_one (x : Nat) : Srt [x] := List.pairwise_singleton ..
theorem srt_nil : Srt [] := List.Pairwise.nil
theorem srt_take {l : List Nat} (h : Srt l) (n : Nat) : Srt (l.take n) := List.Pairwise.sublist (List.take_sublist ..) h
theorem srt_drop {l : List Nat} (h : Srt l) (n : Nat) : Srt (l.drop n) := List.Pairwise.sublist (List.drop_sublist ..) h
theorem split_at {l : List Nat} {h v : Nat} (hv : l[h]? = some v) : l = l.take h ++ v :: l.drop (h + 1) := by
  obtain ⟨hl, rfl⟩ := List.getElem?_eq_some_iff.1 hv
  rw [List.getElem_cons_drop, List.take_append_drop]
/-- What is so of a place is so of all ahead of it. -/
theorem take_all {l : List Nat} (hs : Srt l) (p : Nat → Prop) (hp : ∀ x y, key x ≤ key y → p y → p x) {h v : Nat} (hv : l[h]? = some v) (hpv : p v) : ∀ y ∈ l.take (h + 1), p y := by
  intro y hy
  have e := split_at hv
  rw [List.take_add_one, hv] at hy
  rcases List.mem_append.1 hy with hy | hy
  · rw [e, Srt.app] at hs
    exact hp _ _ (hs.2.2 y hy v (List.mem_cons_self ..)) hpv
  · simp at hy
    rw [hy]
    exact hpv
/-- .. and behind it. -/
theorem drop_all {l : List Nat} (hs : Srt l) (p : Nat → Prop) (hp : ∀ x y, key x ≤ key y → p x → p y) {h v : Nat} (hv : l[h]? = some v) (hpv : p v) : ∀ y ∈ l.drop h, p y := by
  intro y hy
  have hl := (List.getElem?_eq_some_iff.1 hv).1
  have e : l.drop h = v :: l.drop (h + 1) := by
    obtain ⟨hl, rfl⟩ := List.getElem?_eq_some_iff.1 hv
    exact List.drop_eq_getElem_cons hl
  have hs' := srt_drop hs h
  rw [e] at hs' hy
  rcases List.mem_cons.1 hy with rfl | hy
  · exact hpv
  · exact hp _ _ ((List.pairwise_cons.1 hs').1 y hy) hpv
/-- One number put among others. -/
theorem put_srt {Y : List Nat} (hs : Srt Y) (x t : Nat) (h1 : ∀ y ∈ Y.take t, key y ≤ key x) (h2 : ∀ y ∈ Y.drop t, key x ≤ key y) : Srt (Y.take t ++ x :: Y.drop t) ∧ (Y.take t ++ x :: Y.drop t).Perm (x :: Y) := by
  constructor
  · rw [Srt.app]
    refine ⟨srt_take hs t, List.pairwise_cons.2 ⟨h2, srt_drop hs t⟩, fun a ha b hb => ?_⟩
    rcases List.mem_cons.1 hb with rfl | hb
    · exact h1 a ha
    · have := h1 a ha
      have := h2 b hb
      omega
  · have := List.perm_middle (a := x) (l₁ := Y.take t) (l₂ := Y.drop t)
    rw [List.take_append_drop] at this
    exact this
/-- Two halves that are merged each by itself. -/
theorem halves_srt {X1 X2 Y1 Y2 U V : List Nat} (hx : Srt (X1 ++ X2)) (hy : Srt (Y1 ++ Y2)) (hu : Srt U) (hup : U.Perm (X1 ++ Y1)) (hv : Srt V) (hvp : V.Perm (X2 ++ Y2))
    (h1 : ∀ x ∈ X1, ∀ y ∈ Y2, key x ≤ key y) (h2 : ∀ y ∈ Y1, ∀ x ∈ X2, key y ≤ key x) : Srt (U ++ V) ∧ (U ++ V).Perm ((X1 ++ X2) ++ (Y1 ++ Y2)) := by
  rw [Srt.app] at hx hy
  constructor
  · rw [Srt.app]
    refine ⟨hu, hv, fun a ha b hb => ?_⟩
    rcases List.mem_append.1 (hup.mem_iff.1 ha) with ha | ha <;> rcases List.mem_append.1 (hvp.mem_iff.1 hb) with hb | hb
    · exact hx.2.2 a ha b hb
    · exact h1 a ha b hb
    · exact h2 a ha b hb
    · exact hy.2.2 a ha b hb
  · refine (hup.append hvp).trans ?_
    rw [List.append_assoc, List.append_assoc]
    refine List.Perm.append_left _ ?_
    rw [← List.append_assoc, ← List.append_assoc]
    exact List.perm_append_comm.append_right _
/-- The first ones are no greater than the last ones of the other row: told by one test. -/
theorem cross_le {X Y : List Nat} (hx : Srt X) (hy : Srt Y) {i j u v : Nat} (hu : X[i]? = some u) (hv : Y[j]? = some v) (h : key u ≤ key v) : ∀ x ∈ X.take (i + 1), ∀ y ∈ Y.drop j, key x ≤ key y := by
  intro x hx' y hy'
  have a := take_all hx (fun x => key x ≤ key u) (fun a b h1 h2 => by omega) hu (Int.le_refl _) x hx'
  have b := drop_all hy (fun y => key v ≤ key y) (fun a b h1 h2 => by omega) hv (Int.le_refl _) y hy'
  omega
/-- Sorted rows of the same numbers: the same keys. -/
theorem srt_uniq {a b : List Nat} (ha : Srt a) (hb : Srt b) (hp : a.Perm b) : a.map key = b.map key := by
  refine List.Perm.eq_of_pairwise (le := fun x y : Int => x ≤ y) (fun x y _ _ h1 h2 => by omega) ?_ ?_ (hp.map key)
  · exact List.pairwise_map.2 ha
  · exact List.pairwise_map.2 hb
end Go.Proofs.Ytngncegokmppiaa.Flo
