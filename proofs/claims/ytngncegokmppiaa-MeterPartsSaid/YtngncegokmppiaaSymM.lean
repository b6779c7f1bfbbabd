/- SymA, SymB, SymC, SymD in one text. -/
import Derived.Test.YtngncegokmppiaaFloV
import Derived.BigRegion
import Derived.BigQuiet
namespace Go.Proofs.Ytngncegokmppiaa.Flo
open Go
set_option linter.unusedVariables false
set_option linter.unusedSimpArgs false
theorem set_app {α : Type} (P Q : List α) (x y : α) : (P ++ x :: Q).set P.length y = P ++ y :: Q := by
  rw [List.set_append_right _ _ (Nat.le_refl _), Nat.sub_self]
  rfl
theorem set_at {α : Type} (P Q : List α) (x y : α) (n : Nat) (h : P.length = n) : (P ++ x :: Q).set n y = P ++ y :: Q := by
  subst h
  exact set_app P Q x y
theorem get_at {α : Type} (P Q : List α) (x : α) (n : Nat) (h : P.length = n) : (P ++ x :: Q)[n]? = some x := by
  subst h
  rw [List.getElem?_append_right (Nat.le_refl _), Nat.sub_self]
  rfl
/-- Two places that are exchanged. -/
theorem swap_two {α : Type} (P M Q : List α) (x y : α) (i j : Nat) (hi : P.length = i) (hj : P.length + 1 + M.length = j) :
    ((P ++ x :: M ++ y :: Q).set i y).set j x = P ++ y :: M ++ x :: Q := by
  rw [List.append_assoc, List.cons_append, set_at P _ x y i hi]
  have e : P ++ y :: (M ++ y :: Q) = (P ++ y :: M) ++ y :: Q := by simp
  rw [e, set_at _ _ _ _ j (by simp; omega)]
theorem get_two {α : Type} (P M Q : List α) (x y : α) (i j : Nat) (hi : P.length = i) (hj : P.length + 1 + M.length = j) :
    (P ++ x :: M ++ y :: Q)[i]? = some x ∧ (P ++ x :: M ++ y :: Q)[j]? = some y := by
  constructor
  · rw [List.append_assoc, List.cons_append]
    exact get_at P _ x i hi
  · exact get_at _ Q y j (by simp; omega)
def Srt (l : List Nat) : Prop := l.Pairwise fun x y => key x ≤ key y
theorem Srt.app {a b : List Nat} : Srt (a ++ b) ↔ Srt a ∧ Srt b ∧ ∀ x ∈ a, ∀ y ∈ b, key x ≤ key y := List.pairwise_append
theorem srt_one (x : Nat) : Srt [x] := List.pairwise_singleton ..
theorem srt_nil : Srt [] := List.Pairwise.nil
theorem srt_take {l : List Nat} (h : Srt l) (n : Nat) : Srt (l.take n) := List.Pairwise.sublist (List.take_sublist ..) h
theorem srt_drop {l : List Nat} (h : Srt l) (n : Nat) : Srt (l.drop n) := List.Pairwise.sublist (List.drop_sublist ..) h
theorem split_at {l : List Nat} {h v : Nat} (hv : l[h]? = some v) : l = l.take h ++ v :: l.drop (h + 1) := by
  obtain ⟨hl, rfl⟩ := List.getElem?_eq_some_iff.1 hv
  rw [List.getElem_cons_drop, List.take_append_drop]
/-- What is so of a place is so of all ahead of it. -/
theorem take_all {l : List Nat} (hs : Srt l) (p : Nat → Prop) (hp : ∀ x y, key x ≤ key y → p y → p x) {h v : Nat} (hv : l[h]? = some v) (hpv : p v) : ∀ y ∈ l.take (h + 1), p y := by
  intro y hy
  have e := split_at hv
  rw [List.take_add_one, hv] at hy
  rcases List.mem_append.1 hy with hy | hy
  · rw [e, Srt.app] at hs
    exact hp _ _ (hs.2.2 y hy v (List.mem_cons_self ..)) hpv
  · simp at hy
    rw [hy]
    exact hpv
/-- .. and behind it. -/
theorem drop_all {l : List Nat} (hs : Srt l) (p : Nat → Prop) (hp : ∀ x y, key x ≤ key y → p x → p y) {h v : Nat} (hv : l[h]? = some v) (hpv : p v) : ∀ y ∈ l.drop h, p y := by
  intro y hy
  have hl := (List.getElem?_eq_some_iff.1 hv).1
  have e : l.drop h = v :: l.drop (h + 1) := by
    obtain ⟨hl, rfl⟩ := List.getElem?_eq_some_iff.1 hv
    exact List.drop_eq_getElem_cons hl
  have hs' := srt_drop hs h
  rw [e] at hs' hy
  rcases List.mem_cons.1 hy with rfl | hy
  · exact hpv
  · exact hp _ _ ((List.pairwise_cons.1 hs').1 y hy) hpv
/-- One number put among others. -/
theorem put_srt {Y : List Nat} (hs : Srt Y) (x t : Nat) (h1 : ∀ y ∈ Y.take t, key y ≤ key x) (h2 : ∀ y ∈ Y.drop t, key x ≤ key y) : Srt (Y.take t ++ x :: Y.drop t) ∧ (Y.take t ++ x :: Y.drop t).Perm (x :: Y) := by
  constructor
  · rw [Srt.app]
    refine ⟨srt_take hs t, List.pairwise_cons.2 ⟨h2, srt_drop hs t⟩, fun a ha b hb => ?_⟩
    rcases List.mem_cons.1 hb with rfl | hb
    · exact h1 a ha
    · have := h1 a ha
      have := h2 b hb
      omega
  · have := List.perm_middle (a := x) (l₁ := Y.take t) (l₂ := Y.drop t)
    rw [List.take_append_drop] at this
    exact this
/-- Two halves that are merged each by itself. -/
theorem halves_srt {X1 X2 Y1 Y2 U V : List Nat} (hx : Srt (X1 ++ X2)) (hy : Srt (Y1 ++ Y2)) (hu : Srt U) (hup : U.Perm (X1 ++ Y1)) (hv : Srt V) (hvp : V.Perm (X2 ++ Y2))
    (h1 : ∀ x ∈ X1, ∀ y ∈ Y2, key x ≤ key y) (h2 : ∀ y ∈ Y1, ∀ x ∈ X2, key y ≤ key x) : Srt (U ++ V) ∧ (U ++ V).Perm ((X1 ++ X2) ++ (Y1 ++ Y2)) := by
  rw [Srt.app] at hx hy
  constructor
  · rw [Srt.app]
    refine ⟨hu, hv, fun a ha b hb => ?_⟩
    rcases List.mem_append.1 (hup.mem_iff.1 ha) with ha | ha <;> rcases List.mem_append.1 (hvp.mem_iff.1 hb) with hb | hb
    · exact hx.2.2 a ha b hb
    · exact h1 a ha b hb
    · exact h2 a ha b hb
    · exact hy.2.2 a ha b hb
  · refine (hup.append hvp).trans ?_
    rw [List.append_assoc, List.append_assoc]
    refine List.Perm.append_left _ ?_
    rw [← List.append_assoc, ← List.append_assoc]
    exact List.perm_append_comm.append_right _
/-- The first ones are no greater than the last ones of the other row: told by one test. -/
theorem cross_le {X Y : List Nat} (hx : Srt X) (hy : Srt Y) {i j u v : Nat} (hu : X[i]? = some u) (hv : Y[j]? = some v) (h : key u ≤ key v) : ∀ x ∈ X.take (i + 1), ∀ y ∈ Y.drop j, key x ≤ key y := by
  intro x hx' y hy'
  have a := take_all hx (fun x => key x ≤ key u) (fun a b h1 h2 => by omega) hu (Int.le_refl _) x hx'
  have b := drop_all hy (fun y => key v ≤ key y) (fun a b h1 h2 => by omega) hv (Int.le_refl _) y hy'
  omega
/-- Sorted rows of the same numbers: the same keys. -/
theorem srt_uniq {a b : List Nat} (ha : Srt a) (hb : Srt b) (hp : a.Perm b) : a.map key = b.map key := by
  refine List.Perm.eq_of_pairwise (le := fun x y : Int => x ≤ y) (fun x y _ _ h1 h2 => by omega) ?_ ?_ (hp.map key)
  · exact List.pairwise_map.2 ha
  · exact List.pairwise_map.2 hb
end Go.Proofs.Ytngncegokmppiaa.Flo
namespace Go.Proofs.Ytngncegokmppiaa.Flo
open Go Go.RowKit Go.Proofs.Ytngncegokmppiaa.Reg Go.Proofs.YtngncegokmppiaaW.PrintWords Go.Proofs.YtngncegokmppiaaW.PrintLast Go.Proofs.YtngncegokmppiaaW.PrintMore
set_option linter.unusedVariables false
set_option linter.unusedSimpArgs false
/-- A row of one's own. -/
def FR (w : World) (base g cap : Nat) (l : List Nat) : Prop := Kd.R kF 23 w base (fun _ => True) (.slice (some ⟨g, 0, none⟩) l.length cap) l
theorem FR.cell {w : World} {base g cap : Nat} {l : List Nat} (h : FR w base g cap l) {i x : Nat} (hx : l[i]? = some x) : w.cell? ⟨g, i, none⟩ = some (.float .f64 x) ∧ w.frozen? ⟨g, i, none⟩ = false := by
  have hi := (List.getElem?_eq_some_iff.1 hx).1
  obtain ⟨h1, h2⟩ := Kd.R_cell 0 h (i : Int) (by omega) (by omega)
  rw [show ((i : Int)).toNat = i from rfl] at h1 h2
  refine ⟨?_, h2⟩
  rw [h1]
  unfold rdOf
  rw [show ((i : Int)).toNat = i from rfl, List.getD_eq_getElem?_getD, hx]
  rfl
theorem FR.put {w : World} {base g cap : Nat} {l : List Nat} (h : FR w base g cap l) (i x : Nat) : FR (w.setCell ⟨g, i, none⟩ (.float .f64 x)) base g cap (l.set i x) := by
  have h1 := (Kd.R_put h (i : Int) x).1
  rw [show ((i : Int)).toNat = i from rfl] at h1
  unfold FR
  rw [List.length_set]
  exact h1
theorem FR.base {w : World} {base g cap : Nat} {l : List Nat} (h : FR w base g cap l) : base ≤ g := Kd.R_base h g rfl
theorem FR.drew {w : World} {base g cap : Nat} {l : List Nat} (h : FR w base g cap l) : FR w.drew base g cap l := Kd.R_below h (Below.refl _ _).drew
theorem FR.as {w : World} {base g cap : Nat} {l l' : List Nat} (h : FR w base g cap l) (e : l = l') : FR w base g cap l' := e ▸ h
theorem swapR_calls {w : World} {base g cap : Nat} (P A M B Q : List Nat) (N a b n : Nat) (F : Value) (h : FR w base g cap (P ++ A ++ M ++ B ++ Q)) (hN : (P ++ A ++ M ++ B ++ Q).length = N) (hA : A.length = n) (hB : B.length = n) (ha : P.length = a) (hb0 : P.length + n + M.length = b) (hl : N ≤ 4096) :
    Calls Try.prog 52 #[.slice (some ⟨g, 0, none⟩) N cap, .int .i64 a, .int .i64 b, .int .i64 n, F] w fun e w' => e = .returned (.tuple #[]) ∧ FR w' base g cap (P ++ B ++ M ++ A ++ Q) ∧ Below base w w' := by
  have H := Aside0.mk h
  have HN := Aside0.mk hN
  have hbn : b + n ≤ N := by simp at hN; omega
  have han : a + n ≤ b := by omega
  clear h hN
  go_enter Try.func52, Try.ntmps52
  go_wp2
  go_loopw [10] (fun i wr => ∃ (k : Nat), k ≤ n ∧ i = .int .i64 (k : Int) ∧ FR wr base g cap (P ++ (B.take k ++ A.drop k) ++ M ++ (A.take k ++ B.drop k) ++ Q) ∧ Below base w wr) (fun i _ => n - (intOf i).toNat)
  case atStart => exact ⟨0, Nat.zero_le _, rfl, H.out.as (by simp), Below.refl _ _⟩
  case round =>
    obtain ⟨k, hk, rfl, hR, hb⟩ := hrel
    by_cases hlt : k < n
    · obtain ⟨x, hx⟩ : ∃ x, A[k]? = some x := ⟨_, List.getElem?_eq_getElem (by omega)⟩
      obtain ⟨y, hy⟩ : ∃ y, B[k]? = some y := ⟨_, List.getElem?_eq_getElem (by omega)⟩
      have eA : A.drop k = x :: A.drop (k + 1) := by obtain ⟨hl, rfl⟩ := List.getElem?_eq_some_iff.1 hx; exact List.drop_eq_getElem_cons hl
      have eB : B.drop k = y :: B.drop (k + 1) := by obtain ⟨hl, rfl⟩ := List.getElem?_eq_some_iff.1 hy; exact List.drop_eq_getElem_cons hl
      have eS : P ++ (B.take k ++ A.drop k) ++ M ++ (A.take k ++ B.drop k) ++ Q = (P ++ B.take k) ++ x :: (A.drop (k + 1) ++ M ++ A.take k) ++ y :: (B.drop (k + 1) ++ Q) := by
        rw [eA, eB]; simp
      have eT : P ++ (B.take (k + 1) ++ A.drop (k + 1)) ++ M ++ (A.take (k + 1) ++ B.drop (k + 1)) ++ Q = (P ++ B.take k) ++ y :: (A.drop (k + 1) ++ M ++ A.take k) ++ x :: (B.drop (k + 1) ++ Q) := by
        rw [List.take_add_one, List.take_add_one, hx, hy]; simp
      rw [eS] at hR
      have l1 : (P ++ B.take k).length = a + k := by simp; omega
      have l2 : (P ++ B.take k).length + 1 + (A.drop (k + 1) ++ M ++ A.take k).length = b + k := by simp; omega
      obtain ⟨g1, g2⟩ := get_two (P ++ B.take k) (A.drop (k + 1) ++ M ++ A.take k) (B.drop (k + 1) ++ Q) x y (a + k) (b + k) l1 l2
      have sw := swap_two (P ++ B.take k) (A.drop (k + 1) ++ M ++ A.take k) (B.drop (k + 1) ++ Q) x y (a + k) (b + k) l1 l2
      obtain ⟨c1, f1⟩ := hR.cell g1
      obtain ⟨c2, f2⟩ := hR.cell g2
      have RT := Aside0.mk (((hR.put (a + k) y).put (b + k) x).as (sw.trans eT.symm))
      have BT := Aside0.mk ((hb.setCell (p := ⟨g, a + k, none⟩) hR.base (.float .f64 y)).setCell (p := ⟨g, b + k, none⟩) hR.base (.float .f64 x))
      have hst := store_float
      have e1 : ((a : Int) + (k : Int)).toNat = a + k := by omega
      have e2 : ((b : Int) + (k : Int)).toNat = b + k := by omega
      have p1 : (a : Int) + (k : Int) < N := by omega
      have p2 : (b : Int) + (k : Int) < N := by omega
      have p3 : (0 : Int) ≤ (a : Int) + (k : Int) := by omega
      have p4 : (0 : Int) ≤ (b : Int) + (k : Int) := by omega
      have hne : ¬ (a + k = b + k) := by omega
      have hne' : ¬ (b + k = a + k) := by omega
      clear hR hb eA eB eS eT l1 l2 g1 g2 sw hx hy
      go_wp2_with fail
      go_big_region
      all_goals go_wp2
      go_roundw
      case rel => exact ⟨k + 1, hlt, by go_num, RT.out.drew, BT.out.drew⟩
      case measure =>
        simp [intOf]
        go_num
    · obtain rfl : k = n := by omega
      have RR := Aside0.mk hR
      have BB := Aside0.mk hb
      clear hR hb
      go_wp2
      go_returns
      refine ⟨rfl, RR.out.as ?_, BB.out⟩
      rw [List.take_of_length_le (by omega), List.take_of_length_le (by omega), List.drop_of_length_le (by omega), List.drop_of_length_le (by omega)]
      simp
theorem swapR_as {w : World} {base g cap : Nat} {L L' : List Nat} (P A M B Q : List Nat) (N a b n : Nat) (F : Value) (h : FR w base g cap L) (e : L = P ++ A ++ M ++ B ++ Q) (e' : P ++ B ++ M ++ A ++ Q = L') (hN : L.length = N) (hA : A.length = n) (hB : B.length = n) (ha : P.length = a) (hb : P.length + n + M.length = b) (hl : N ≤ 4096) :
    Calls Try.prog 52 #[.slice (some ⟨g, 0, none⟩) N cap, .int .i64 a, .int .i64 b, .int .i64 n, F] w fun e w' => e = .returned (.tuple #[]) ∧ FR w' base g cap L' ∧ Below base w w' := by
  subst e e'
  exact swapR_calls P A M B Q N a b n F h hN hA hB ha hb hl
set_option maxHeartbeats 2000000 in
/-- U and V change places. -/
theorem rot_calls {w : World} {base g cap : Nat} (P U V Q : List Nat) (N a m b : Nat) (F : Value) (h : FR w base g cap (P ++ U ++ V ++ Q)) (hN : (P ++ U ++ V ++ Q).length = N) (ha : P.length = a) (hm : a + U.length = m) (hb : m + V.length = b) (h1 : 0 < U.length) (h2 : 0 < V.length) (hl : N ≤ 4096) :
    Calls Try.prog 51 #[.slice (some ⟨g, 0, none⟩) N cap, .int .i64 a, .int .i64 m, .int .i64 b, F] w fun e w' => e = .returned (.tuple #[]) ∧ FR w' base g cap (P ++ V ++ U ++ Q) ∧ Below base w w' := by
  have H := Aside0.mk h
  have HN := Aside0.mk hN
  have hbn : b ≤ N := by simp at hN; omega
  have hmi : (m : Int) - (a : Int) = (U.length : Int) := by omega
  have hbj : (b : Int) - (m : Int) = (V.length : Int) := by omega
  clear h hN
  go_enter Try.func51, Try.ntmps51
  go_wp2
  go_loopw [10, 11] (fun vi vj wr => ∃ (i j : Nat) (P1 U1 V1 Q1 : List Nat), vi = .int .i64 (i : Int) ∧ vj = .int .i64 (j : Int) ∧ U1.length = i ∧ V1.length = j ∧ 0 < i ∧ 0 < j ∧ P1.length + i = m ∧ (P1 ++ U1 ++ V1 ++ Q1).length = N ∧ FR wr base g cap (P1 ++ U1 ++ V1 ++ Q1) ∧ P1 ++ V1 ++ U1 ++ Q1 = P ++ V ++ U ++ Q ∧ Below base w wr) (fun vi vj _ => (intOf vi).toNat + (intOf vj).toNat)
  case atStart => exact ⟨U.length, V.length, P, U, V, Q, rfl, rfl, rfl, rfl, h1, h2, by omega, HN.out, H.out, rfl, Below.refl _ _⟩
  case round =>
    obtain ⟨i, j, P1, U1, V1, Q1, rfl, rfl, hU, hV, hi0, hj0, hP, hlen, hR, hE, hb1⟩ := hrel
    have RR := Aside0.mk hR
    have HB := Aside0.mk hb1
    have LN := Aside0.mk hlen
    have EE := Aside0.mk hE
    have hmj : m + j ≤ N := by simp at hlen; omega
    clear hR hb1 hlen hE
    rcases Nat.lt_trichotomy i j with hij | hij | hij
    · -- i < j
      have g1 : ((i : Int) = (j : Int)) = False := eq_false (by omega)
      have g2 : ((j : Int) < (i : Int)) = False := eq_false (by omega)
      obtain ⟨p, hp⟩ : ∃ p, P1.length = p := ⟨_, rfl⟩
      obtain ⟨s, hs⟩ : ∃ s, m + j - i = s := ⟨_, rfl⟩
      obtain ⟨d, hd⟩ : ∃ d, j - i = d := ⟨_, rfl⟩
      have q1 : (m : Int) - (i : Int) = (p : Int) := by omega
      have q2 : (m : Int) + (j : Int) - (i : Int) = (s : Int) := by omega
      have q3 : (j : Int) - (i : Int) = (d : Int) := by omega
      have q5 : p + i + d = s := by omega
      obtain ⟨A, B, hVe, hAl, hBl⟩ : ∃ A B, V1 = A ++ B ∧ A.length = d ∧ B.length = i := ⟨V1.take d, V1.drop d, (List.take_append_drop _ _).symm, by simp; omega, by simp; omega⟩
      go_wp2_with (first
        | (go_at_call 52; refine (swapR_as (L' := P1 ++ B ++ A ++ (U1 ++ Q1)) P1 U1 A B Q1 N p s i F RR.out (by rw [hVe]; simp) (by simp) LN.out hU hBl hp (by omega) hl).mono ?_; rintro e w3 ⟨rfl, hR3, hb3⟩; have R3 := Aside0.mk hR3; have B3 := Aside0.mk (HB.out.trans hb3); clear hR3 hb3))
      go_roundw
      case rel =>
        refine ⟨i, d, P1, B, A, U1 ++ Q1, rfl, by go_num, hBl, hAl, hi0, by omega, by omega, ?_, R3.out, ?_, B3.out⟩
        · have h_ := LN.out; simp at h_ ⊢; omega
        · rw [← EE.out, hVe]; simp
      case measure =>
        simp [intOf]
        go_num
    · subst hij
      obtain ⟨p, hp⟩ : ∃ p, P1.length = p := ⟨_, rfl⟩
      have q1 : (m : Int) - (i : Int) = (p : Int) := by omega
      go_wp2_with (first
        | (go_at_call 52; refine (swapR_as (L' := P ++ V ++ U ++ Q) P1 U1 [] V1 Q1 N p m i F RR.out (by simp) (by rw [← EE.out]; simp) LN.out hU hV hp (by simp; omega) hl).mono ?_; rintro e w3 ⟨rfl, hR3, hb3⟩; have R3 := Aside0.mk hR3; have B3 := Aside0.mk (HB.out.trans hb3); clear hR3 hb3))
      go_returns
      exact ⟨rfl, R3.out, B3.out⟩
    · -- j < i
      have g1 : ((i : Int) = (j : Int)) = False := eq_false (by omega)
      have g2 : ((j : Int) < (i : Int)) = True := eq_true (by omega)
      obtain ⟨p, hp⟩ : ∃ p, P1.length = p := ⟨_, rfl⟩
      obtain ⟨d, hd⟩ : ∃ d, i - j = d := ⟨_, rfl⟩
      have q1 : (m : Int) - (i : Int) = (p : Int) := by omega
      have q3 : (i : Int) - (j : Int) = (d : Int) := by omega
      obtain ⟨A, B, hUe, hAl, hBl⟩ : ∃ A B, U1 = A ++ B ∧ A.length = j ∧ B.length = d := ⟨U1.take j, U1.drop j, (List.take_append_drop _ _).symm, by simp; omega, by simp; omega⟩
      go_wp2_with (first
        | (go_at_call 52; refine (swapR_as (L' := (P1 ++ V1) ++ B ++ A ++ Q1) P1 A B V1 Q1 N p m j F RR.out (by rw [hUe]; simp) (by simp) LN.out hAl hV hp (by omega) hl).mono ?_; rintro e w3 ⟨rfl, hR3, hb3⟩; have R3 := Aside0.mk hR3; have B3 := Aside0.mk (HB.out.trans hb3); clear hR3 hb3))
      go_roundw
      case rel =>
        refine ⟨d, j, P1 ++ V1, B, A, Q1, by go_num, rfl, hBl, hAl, by omega, hj0, by simp; omega, ?_, R3.out, ?_, B3.out⟩
        · have h_ := LN.out; rw [hUe] at h_; simp at h_ ⊢; omega
        · rw [← EE.out, hUe]; simp
      case measure =>
        simp [intOf]
        go_num
end Go.Proofs.Ytngncegokmppiaa.Flo
namespace Go.Proofs.Ytngncegokmppiaa.Flo
open Go Go.RowKit Go.Proofs.Ytngncegokmppiaa.Reg Go.Proofs.YtngncegokmppiaaW.PrintWords Go.Proofs.YtngncegokmppiaaW.PrintLast Go.Proofs.YtngncegokmppiaaW.PrintMore
set_option linter.unusedVariables false
set_option linter.unusedSimpArgs false
set_option maxRecDepth 100000 in
set_option maxHeartbeats 4000000 in
theorem symM_left {w : World} {base g cap : Nat} (P Y Q : List Nat) (x N a m b : Nat) (h : FR w base g cap (P ++ x :: Y ++ Q)) (hN : (P ++ x :: Y ++ Q).length = N) (ha : P.length = a) (hm : a + 1 = m) (hb0 : m + Y.length = b) (h2 : 0 < Y.length) (hs : Srt Y) (hl : N ≤ 4096) :
    Calls Try.prog 50 #[.slice (some ⟨g, 0, none⟩) N cap, .int .i64 a, .int .i64 m, .int .i64 b, .func (.func 11) #[] #[]] w fun e w' => e = .returned (.tuple #[]) ∧ ∃ Z, Srt Z ∧ Z.Perm (x :: Y) ∧ FR w' base g cap (P ++ Z ++ Q) ∧ Below base w w' := by
  have H := Aside0.mk h
  have HN := Aside0.mk hN
  have HS := Aside0.mk hs
  have hbn : b ≤ N := by simp at hN; omega
  have q0 : (m : Int) - (a : Int) = 1 := by omega
  have eg : ∀ args w, (callFunc 11 args).run Try.prog w = .ok (.enter 11 args) w := enters_of Try.func11 (by kernel_rfl) rfl
  clear h hN hs
  go_enter Try.func50, Try.ntmps50
  go_wp2
  go_loopw [10, 11] (fun vi vj wr => ∃ (i j : Nat), vi = .int .i64 (i : Int) ∧ vj = .int .i64 (j : Int) ∧ m ≤ i ∧ i ≤ j ∧ j ≤ b ∧ (∀ y ∈ Y.take (i - m), key y ≤ key x) ∧ (∀ y ∈ Y.drop (j - m), key x ≤ key y) ∧ FR wr base g cap (P ++ x :: Y ++ Q) ∧ Below base w wr) (fun vi vj _ => (intOf vj).toNat - (intOf vi).toNat)
  case atStart => exact ⟨m, b, rfl, rfl, Nat.le_refl _, by omega, Nat.le_refl _, by rw [Nat.sub_self]; intro y hy; simp at hy, by rw [List.drop_of_length_le (by omega)]; intro y hy; simp at hy, H.out, Below.refl _ _⟩
  case round =>
    obtain ⟨i, j, rfl, rfl, hi, hij, hj, hlo, hhi, hR, hb⟩ := hrel
    have RR := Aside0.mk hR
    have HB := Aside0.mk hb
    have LO := Aside0.mk hlo
    have HI := Aside0.mk hhi
    clear hR hb hlo hhi
    by_cases hlt : i < j
    · obtain ⟨h, hh⟩ : ∃ h : Nat, (i + j) / 2 = h := ⟨_, rfl⟩
      have qh : ((i : Int) + (j : Int)) / 2 = (h : Int) := by omega
      obtain ⟨v, hv⟩ : ∃ v, Y[h - m]? = some v := ⟨_, List.getElem?_eq_getElem (by omega)⟩
      have HV := Aside0.mk hv
      have c1 := (RR.out.cell (i := h) (x := v) (by
        rw [List.append_assoc, List.cons_append, List.getElem?_append_right (by omega), ha, show h - a = (h - m) + 1 by omega, List.getElem?_cons_succ, List.getElem?_append_left (by omega)]
        exact HV.out)).1
      have c2 := (RR.out.cell (i := a) (x := x) (by rw [List.append_assoc]; exact get_at P _ x a ha)).1
      have C1 := Aside0.mk c1
      have C2 := Aside0.mk c2
      obtain ⟨cc, hcc⟩ : ∃ cc, cmpF v x = cc := ⟨_, rfl⟩
      have CC := Aside0.mk hcc
      have hhN : h < N := by omega
      have haN : a < N := by omega
      clear c1 c2 hv hcc
      have hst := store_float
      cases hneg : decide (cc < 0) with
      | true =>
        have h0 : key v < key x := (cmpF_neg v x).1 (by rw [CC.out]; exact of_decide_eq_true hneg)
        go_wp2
        refine wp_region_text (fun W => Below wr.heap.size wr W) (fun i => [9].contains i) (by kernel_rfl) (by kernel_rfl) ((Below.refl wr.heap.size _).drew) ?_
        have JI := Aside0.mk ((Below.refl wr.heap.size wr).drew)
        have HD := Aside0.mk ((HB.out.trans (Below.refl base wr).drew))
        have RD := Aside0.mk RR.out.drew
        generalize wr.drew = wd at JI HD RD ⊢
        repeat (first
          | ((apply S_val rfl; (first | exact wanted_none rfl | exact wanted_yes rfl rfl (by kernel_rfl)); (intro W hW R hR; have z0 := cell_b hW C1.out; have z1 := cell_b hW C2.out; go_simp; exact hR)); go_frame)
          | ((refine S_call rfl ?_ ?_ (gCmp_as _ v x cc CC.out) ?_; (first | exact wanted_none rfl | exact wanted_yes rfl rfl (by kernel_rfl)); (focus (first | (go_simp; done) | (go_simp; rfl)))); rintro e wn ⟨rfl, rfl⟩; refine ⟨_, rfl, JI.out, ?_⟩; go_frame))
        apply S_nil
        go_wp2
        go_roundw
        case rel =>
          refine ⟨h + 1, j, by go_num, rfl, by omega, by omega, hj, ?_, HI.out, RD.out, HD.out⟩
          rw [show h + 1 - m = (h - m) + 1 by omega]
          exact take_all HS.out (fun y => key y ≤ key x) (fun p q h1 h2 => by omega) HV.out (by omega)
        case measure =>
          simp [intOf]
          go_num
      | false =>
        have h0 : ¬ key v < key x := fun hk => by
          have h1 := (cmpF_neg v x).2 hk
          rw [CC.out] at h1
          exact of_decide_eq_false hneg h1
        go_wp2
        refine wp_region_text (fun W => Below wr.heap.size wr W) (fun i => [9].contains i) (by kernel_rfl) (by kernel_rfl) ((Below.refl wr.heap.size _).drew) ?_
        have JI := Aside0.mk ((Below.refl wr.heap.size wr).drew)
        have HD := Aside0.mk ((HB.out.trans (Below.refl base wr).drew))
        have RD := Aside0.mk RR.out.drew
        generalize wr.drew = wd at JI HD RD ⊢
        repeat (first
          | ((apply S_val rfl; (first | exact wanted_none rfl | exact wanted_yes rfl rfl (by kernel_rfl)); (intro W hW R hR; have z0 := cell_b hW C1.out; have z1 := cell_b hW C2.out; go_simp; exact hR)); go_frame)
          | ((refine S_call rfl ?_ ?_ (gCmp_as _ v x cc CC.out) ?_; (first | exact wanted_none rfl | exact wanted_yes rfl rfl (by kernel_rfl)); (focus (first | (go_simp; done) | (go_simp; rfl)))); rintro e wn ⟨rfl, rfl⟩; refine ⟨_, rfl, JI.out, ?_⟩; go_frame))
        apply S_nil
        go_wp2
        go_roundw
        case rel =>
          refine ⟨i, h, rfl, rfl, hi, by omega, by omega, LO.out, ?_, RD.out, HD.out⟩
          exact drop_all HS.out (fun y => key x ≤ key y) (fun p q h1 h2 => by omega) HV.out (by omega)
        case measure =>
          simp [intOf]
          go_num
    · obtain rfl : i = j := by omega
      have PS := Aside0.mk (put_srt HS.out x (i - m) LO.out HI.out)
      have hiN : i ≤ N := by omega
      obtain ⟨wz, hwz⟩ : ∃ wz, wz = wr := ⟨_, rfl⟩
      subst hwz
      clear LO HI hij hlt H
      go_wp2
      go_loopw [13] (fun vk wr => ∃ (k : Nat), vk = .int .i64 (k : Int) ∧ a ≤ k ∧ k + 1 ≤ i ∧ FR wr base g cap (P ++ (Y.take (k - a) ++ x :: Y.drop (k - a)) ++ Q) ∧ Below base w wr) (fun vk _ => i - (intOf vk).toNat)
      case atStart => exact ⟨a, rfl, Nat.le_refl _, by omega, by rw [Nat.sub_self]; exact RR.out, HB.out⟩
      case round =>
        obtain ⟨k, rfl, hak, hki, hR, hb⟩ := hrel
        by_cases hlk : k + 1 < i
        · obtain ⟨y, hy⟩ : ∃ y, Y[k - a]? = some y := ⟨_, List.getElem?_eq_getElem (by omega)⟩
          have eY : Y.drop (k - a) = y :: Y.drop (k - a + 1) := by obtain ⟨hl, rfl⟩ := List.getElem?_eq_some_iff.1 hy; exact List.drop_eq_getElem_cons hl
          have eS : P ++ (Y.take (k - a) ++ x :: Y.drop (k - a)) ++ Q = (P ++ Y.take (k - a)) ++ x :: [] ++ y :: (Y.drop (k - a + 1) ++ Q) := by rw [eY]; simp
          have eT : P ++ (Y.take (k + 1 - a) ++ x :: Y.drop (k + 1 - a)) ++ Q = (P ++ Y.take (k - a)) ++ y :: [] ++ x :: (Y.drop (k - a + 1) ++ Q) := by
            rw [show k + 1 - a = k - a + 1 by omega, List.take_add_one, hy]; simp
          rw [eS] at hR
          have l1 : (P ++ Y.take (k - a)).length = k := by simp; omega
          have l2 : (P ++ Y.take (k - a)).length + 1 + ([] : List Nat).length = k + 1 := by simp; omega
          obtain ⟨g1, g2⟩ := get_two (P ++ Y.take (k - a)) [] (Y.drop (k - a + 1) ++ Q) x y k (k + 1) l1 l2
          have sw := swap_two (P ++ Y.take (k - a)) [] (Y.drop (k - a + 1) ++ Q) x y k (k + 1) l1 l2
          obtain ⟨c1, f1⟩ := hR.cell g1
          obtain ⟨c2, f2⟩ := hR.cell g2
          have RT := Aside0.mk (((hR.put k y).put (k + 1) x).as (sw.trans eT.symm))
          have BT := Aside0.mk ((hb.setCell (p := ⟨g, k, none⟩) hR.base (.float .f64 y)).setCell (p := ⟨g, k + 1, none⟩) hR.base (.float .f64 x))
          have hst := store_float
          have e1 : ((k : Int) + 1).toNat = k + 1 := by omega
          have p1 : (k : Int) + 1 < N := by omega
          have p2 : (k : Int) < N := by omega
          have p3 : (0 : Int) ≤ (k : Int) + 1 := by omega
          have p4 : ((k : Int) < (i : Int) - 1) = True := eq_true (by omega)
          have p5 : decide ((k : Int) < (i : Int) - 1) = true := decide_eq_true (by omega)
          clear hR hb eY eS eT l1 l2 g1 g2 sw hy
          go_wp2_with fail
          go_big_region
          all_goals go_wp2
          go_roundw
          case rel => exact ⟨k + 1, by go_num, by omega, by omega, RT.out.drew, BT.out.drew⟩
          case measure =>
            simp [intOf]
            go_num
        · have RX := Aside0.mk (hR.as (by rw [show k - a = i - m by omega]))
          have BX := Aside0.mk hb
          have p4 : ((k : Int) < (i : Int) - 1) = False := eq_false (by omega)
          have p5 : decide ((k : Int) < (i : Int) - 1) = false := decide_eq_false (by omega)
          clear hR hb
          go_wp2
          go_returns
          exact ⟨rfl, _, PS.out.1, PS.out.2, RX.out, BX.out⟩
end Go.Proofs.Ytngncegokmppiaa.Flo
namespace Go.Proofs.Ytngncegokmppiaa.Flo
open Go Go.RowKit Go.Proofs.Ytngncegokmppiaa.Reg Go.Proofs.YtngncegokmppiaaW.PrintWords Go.Proofs.YtngncegokmppiaaW.PrintLast Go.Proofs.YtngncegokmppiaaW.PrintMore
set_option linter.unusedVariables false
set_option linter.unusedSimpArgs false
set_option maxRecDepth 100000 in
set_option maxHeartbeats 4000000 in
theorem symM_right {w : World} {base g cap : Nat} (P X Q : List Nat) (y N a m b : Nat) (h : FR w base g cap (P ++ X ++ y :: Q)) (hN : (P ++ X ++ y :: Q).length = N) (ha : P.length = a) (hm : a + X.length = m) (hb0 : m + 1 = b) (h2 : 1 < X.length) (hs : Srt X) (hl : N ≤ 4096) :
    Calls Try.prog 50 #[.slice (some ⟨g, 0, none⟩) N cap, .int .i64 a, .int .i64 m, .int .i64 b, .func (.func 11) #[] #[]] w fun e w' => e = .returned (.tuple #[]) ∧ ∃ Z, Srt Z ∧ Z.Perm (y :: X) ∧ FR w' base g cap (P ++ Z ++ Q) ∧ Below base w w' := by
  have H := Aside0.mk h
  have HN := Aside0.mk hN
  have HS := Aside0.mk hs
  have hbn : b ≤ N := by simp at hN; omega
  have q0 : ((m : Int) - (a : Int) == 1) = false := by rw [beq_eq_false_iff_ne]; omega
  have q1 : (b : Int) - (m : Int) = 1 := by omega
  have eg : ∀ args w, (callFunc 11 args).run Try.prog w = .ok (.enter 11 args) w := enters_of Try.func11 (by kernel_rfl) rfl
  clear h hN hs
  go_enter Try.func50, Try.ntmps50
  go_wp2
  go_loopw [14, 15] (fun vi vj wr => ∃ (i j : Nat), vi = .int .i64 (i : Int) ∧ vj = .int .i64 (j : Int) ∧ a ≤ i ∧ i ≤ j ∧ j ≤ m ∧ (∀ x ∈ X.take (i - a), key x ≤ key y) ∧ (∀ x ∈ X.drop (j - a), key y ≤ key x) ∧ FR wr base g cap (P ++ X ++ y :: Q) ∧ Below base w wr) (fun vi vj _ => (intOf vj).toNat - (intOf vi).toNat)
  case atStart => exact ⟨a, m, rfl, rfl, Nat.le_refl _, by omega, Nat.le_refl _, by rw [Nat.sub_self]; intro y hy; simp at hy, by rw [List.drop_of_length_le (by omega)]; intro y hy; simp at hy, H.out, Below.refl _ _⟩
  case round =>
    obtain ⟨i, j, rfl, rfl, hi, hij, hj, hlo, hhi, hR, hb⟩ := hrel
    have RR := Aside0.mk hR
    have HB := Aside0.mk hb
    have LO := Aside0.mk hlo
    have HI := Aside0.mk hhi
    clear hR hb hlo hhi
    by_cases hlt : i < j
    · obtain ⟨h, hh⟩ : ∃ h : Nat, (i + j) / 2 = h := ⟨_, rfl⟩
      have qh : ((i : Int) + (j : Int)) / 2 = (h : Int) := by omega
      obtain ⟨v, hv⟩ : ∃ v, X[h - a]? = some v := ⟨_, List.getElem?_eq_getElem (by omega)⟩
      have HV := Aside0.mk hv
      have c1 := (RR.out.cell (i := h) (x := v) (by
        rw [List.append_assoc, List.getElem?_append_right (by omega), ha, List.getElem?_append_left (by omega)]
        exact HV.out)).1
      have c2 := (RR.out.cell (i := m) (x := y) (get_at (P ++ X) Q y m (by simp; omega))).1
      have C1 := Aside0.mk c1
      have C2 := Aside0.mk c2
      obtain ⟨cc, hcc⟩ : ∃ cc, cmpF y v = cc := ⟨_, rfl⟩
      have CC := Aside0.mk hcc
      have hhN : h < N := by omega
      have haN : m < N := by omega
      clear c1 c2 hv hcc
      cases hneg : decide (cc < 0) with
      | true =>
        have h0 : key y < key v := (cmpF_neg y v).1 (by rw [CC.out]; exact of_decide_eq_true hneg)
        go_wp2
        refine wp_region_text (fun W => Below wr.heap.size wr W) (fun i => [9].contains i) (by kernel_rfl) (by kernel_rfl) ((Below.refl wr.heap.size _).drew) ?_
        have JI := Aside0.mk ((Below.refl wr.heap.size wr).drew)
        have HD := Aside0.mk ((HB.out.trans (Below.refl base wr).drew))
        have RD := Aside0.mk RR.out.drew
        generalize wr.drew = wd at JI HD RD ⊢
        repeat (first
          | ((apply S_val rfl; (first | exact wanted_none rfl | exact wanted_yes rfl rfl (by kernel_rfl)); (intro W hW R hR; have z0 := cell_b hW C1.out; have z1 := cell_b hW C2.out; go_simp; exact hR)); go_frame)
          | ((refine S_call rfl ?_ ?_ (gCmp_as _ y v cc CC.out) ?_; (first | exact wanted_none rfl | exact wanted_yes rfl rfl (by kernel_rfl)); (focus (first | (go_simp; done) | (go_simp; rfl)))); rintro e wn ⟨rfl, rfl⟩; refine ⟨_, rfl, JI.out, ?_⟩; go_frame))
        apply S_nil
        go_wp2
        go_roundw
        case rel =>
          refine ⟨i, h, rfl, rfl, hi, by omega, by omega, LO.out, ?_, RD.out, HD.out⟩
          exact drop_all HS.out (fun x => key y ≤ key x) (fun p q h1 h2 => by omega) HV.out (by omega)
        case measure =>
          simp [intOf]
          go_num
      | false =>
        have h0 : ¬ key y < key v := fun hk => by
          have h1 := (cmpF_neg y v).2 hk
          rw [CC.out] at h1
          exact of_decide_eq_false hneg h1
        have h00 : 0 ≤ cc := by have := of_decide_eq_false hneg; omega
        have hneg2 : decide (0 ≤ cc) = true := decide_eq_true h00
        go_wp2
        refine wp_region_text (fun W => Below wr.heap.size wr W) (fun i => [9].contains i) (by kernel_rfl) (by kernel_rfl) ((Below.refl wr.heap.size _).drew) ?_
        have JI := Aside0.mk ((Below.refl wr.heap.size wr).drew)
        have HD := Aside0.mk ((HB.out.trans (Below.refl base wr).drew))
        have RD := Aside0.mk RR.out.drew
        generalize wr.drew = wd at JI HD RD ⊢
        repeat (first
          | ((apply S_val rfl; (first | exact wanted_none rfl | exact wanted_yes rfl rfl (by kernel_rfl)); (intro W hW R hR; have z0 := cell_b hW C1.out; have z1 := cell_b hW C2.out; go_simp; exact hR)); go_frame)
          | ((refine S_call rfl ?_ ?_ (gCmp_as _ y v cc CC.out) ?_; (first | exact wanted_none rfl | exact wanted_yes rfl rfl (by kernel_rfl)); (focus (first | (go_simp; done) | (go_simp; rfl)))); rintro e wn ⟨rfl, rfl⟩; refine ⟨_, rfl, JI.out, ?_⟩; go_frame))
        apply S_nil
        go_wp2
        go_roundw
        case rel =>
          refine ⟨h + 1, j, by go_num, rfl, by omega, by omega, hj, ?_, HI.out, RD.out, HD.out⟩
          rw [show h + 1 - a = (h - a) + 1 by omega]
          exact take_all HS.out (fun x => key x ≤ key y) (fun p q h1 h2 => by omega) HV.out (by omega)
        case measure =>
          simp [intOf]
          go_num
    · obtain rfl : i = j := by omega
      have PS := Aside0.mk (put_srt HS.out y (i - a) LO.out HI.out)
      have hiN : i ≤ N := by omega
      obtain ⟨wz, hwz⟩ : ∃ wz, wz = wr := ⟨_, rfl⟩
      subst hwz
      clear LO HI hij hlt H
      go_wp2
      go_loopw [17] (fun vk wr => ∃ (k : Nat), vk = .int .i64 (k : Int) ∧ i ≤ k ∧ k ≤ m ∧ FR wr base g cap (P ++ (X.take (k - a) ++ y :: X.drop (k - a)) ++ Q) ∧ Below base w wr) (fun vk _ => (intOf vk).toNat - i)
      case atStart => exact ⟨m, rfl, by omega, Nat.le_refl _, RR.out.as (by rw [List.take_of_length_le (by omega), List.drop_of_length_le (by omega)]; simp), HB.out⟩
      case round =>
        obtain ⟨k, rfl, hik, hkm, hR, hb⟩ := hrel
        by_cases hlk : i < k
        · obtain ⟨t, rfl⟩ : ∃ t, k = t + 1 := ⟨k - 1, by omega⟩
          obtain ⟨x, hx⟩ : ∃ x, X[t - a]? = some x := ⟨_, List.getElem?_eq_getElem (by omega)⟩
          have eX : X.drop (t - a) = x :: X.drop (t - a + 1) := by obtain ⟨hl, rfl⟩ := List.getElem?_eq_some_iff.1 hx; exact List.drop_eq_getElem_cons hl
          have eS : P ++ (X.take (t + 1 - a) ++ y :: X.drop (t + 1 - a)) ++ Q = (P ++ X.take (t - a)) ++ x :: [] ++ y :: (X.drop (t - a + 1) ++ Q) := by
            rw [show t + 1 - a = t - a + 1 by omega, List.take_add_one, hx]; simp
          have eT : P ++ (X.take (t - a) ++ y :: X.drop (t - a)) ++ Q = (P ++ X.take (t - a)) ++ y :: [] ++ x :: (X.drop (t - a + 1) ++ Q) := by rw [eX]; simp
          rw [eS] at hR
          have l1 : (P ++ X.take (t - a)).length = t := by simp; omega
          have l2 : (P ++ X.take (t - a)).length + 1 + ([] : List Nat).length = t + 1 := by simp; omega
          obtain ⟨g1, g2⟩ := get_two (P ++ X.take (t - a)) [] (X.drop (t - a + 1) ++ Q) x y t (t + 1) l1 l2
          have sw := swap_two (P ++ X.take (t - a)) [] (X.drop (t - a + 1) ++ Q) x y t (t + 1) l1 l2
          obtain ⟨c1, f1⟩ := hR.cell g1
          obtain ⟨c2, f2⟩ := hR.cell g2
          have RT := Aside0.mk (((hR.put (t + 1) x).put t y).as ((List.set_comm _ _ (by omega)).trans (sw.trans eT.symm)))
          have BT := Aside0.mk ((hb.setCell (p := ⟨g, t + 1, none⟩) hR.base (.float .f64 x)).setCell (p := ⟨g, t, none⟩) hR.base (.float .f64 y))
          have hst := store_float
          have e0 : ((t + 1 : Nat) : Int) = (t : Int) + 1 := by omega
          have e1 : ((t : Int) + 1).toNat = t + 1 := by omega
          have e3 : (t : Int) + 1 - 1 = (t : Int) := by omega
          have hwk : IntKind.i64.wrap (t : Int) = (t : Int) := IntWalk.i64_in _ (by omega)
          have p1 : (t : Int) + 1 < N := by omega
          have p2 : (t : Int) < N := by omega
          have p3 : (0 : Int) ≤ (t : Int) + 1 := by omega
          have p4 : ((i : Int) < (t : Int) + 1) = True := eq_true (by omega)
          have p5 : decide ((i : Int) < (t : Int) + 1) = true := decide_eq_true (by omega)
          rw [e0]
          clear hR hb eX eS eT l1 l2 g1 g2 sw hx
          go_wp2_with fail
          go_big_region
          all_goals go_wp2
          go_roundw
          case rel => exact ⟨t, by go_num, by omega, by omega, RT.out.drew, BT.out.drew⟩
          case measure =>
            simp [intOf]
            go_num
        · have RX := Aside0.mk (hR.as (by rw [show k - a = i - a by omega]))
          have BX := Aside0.mk hb
          have p5 : decide ((i : Int) < (k : Int)) = false := decide_eq_false (by omega)
          clear hR hb
          go_wp2
          go_returns
          exact ⟨rfl, _, PS.out.1, PS.out.2, RX.out, BX.out⟩
end Go.Proofs.Ytngncegokmppiaa.Flo
