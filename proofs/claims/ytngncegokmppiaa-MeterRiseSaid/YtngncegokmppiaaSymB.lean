/- Ranges that are exchanged; rows that are turned: the walks. -/
import Derived.Test.YtngncegokmppiaaSymA
import Derived.BigRegion
import Derived.BigQuiet
namespace Go.Proofs.Ytngncegokmppiaa.Flo
open Go Go.RowKit Go.Proofs.Ytngncegokmppiaa.Reg Go.Proofs.YtngncegokmppiaaW.PrintWords Go.Proofs.YtngncegokmppiaaW.PrintLast Go.Proofs.YtngncegokmppiaaW.PrintMore
set_option linter.unusedVariables false
set_option linter.unusedSimpArgs false
/-- A row of one's own. -/
def FR (w : World) (base g cap : Nat) (l : List Nat) : Prop := Kd.R kF 23 w base (fun _ => True) (.slice (some ⟨g, 0, none⟩) l.length cap) l
theorem FR.cell {w : World} {base g cap : Nat} {l : List Nat} (h : FR w base g cap l) {i x : Nat} (hx : l[i]? = some x) : w.cell? ⟨g, i, none⟩ = some (.float .f64 x) ∧ w.frozen? ⟨g, i, none⟩ = false := by
  have hi := (List.getElem?_eq_some_iff.1 hx).1
  obtain ⟨h1, h2⟩ := Kd.R_cell 0 h (i : Int) (by omega) (by omega)
  rw [show ((i : Int)).toNat = i from rfl] at h1 h2
  refine ⟨?_, h2⟩
  rw [h1]
  unfold rdOf
  rw [show ((i : Int)).toNat = i from rfl, List.getD_eq_getElem?_getD, hx]
  rfl
theorem FR.put {w : World} {base g cap : Nat} {l : List Nat} (h : FR w base g cap l) (i x : Nat) : FR (w.setCell ⟨g, i, none⟩ (.float .f64 x)) base g cap (l.set i x) := by
  have h1 := (Kd.R_put h (i : Int) x).1
  rw [show ((i : Int)).toNat = i from rfl] at h1
  unfold FR
  rw [List.length_set]
  exact h1
theorem FR.base {w : World} {base g cap : Nat} {l : List Nat} (h : FR w base g cap l) : base ≤ g := Kd.R_base h g rfl
theorem FR.drew {w : World} {base g cap : Nat} {l : List Nat} (h : FR w base g cap l) : FR w.drew base g cap l := Kd.R_below h (Below.refl _ _).drew
theorem FR.as {w : World} {base g cap : Nat} {l l' : List Nat} (h : FR w base g cap l) (e : l = l') : FR w base g cap l' := e ▸ h
theorem swapR_calls {w : World} {base g cap : Nat} (P A M B Q : List Nat) (N a b n : Nat) (F : Value) (h : FR w base g cap (P ++ A ++ M ++ B ++ Q)) (hN : (P ++ A ++ M ++ B ++ Q).length = N) (hA : A.length = n) (hB : B.length = n) (ha : P.length = a) (hb0 : P.length + n + M.length = b) (hl : N ≤ 4096) :
    Calls Try.prog 52 #[.slice (some ⟨g, 0, none⟩) N cap, .int .i64 a, .int .i64 b, .int .i64 n, F] w fun e w' => e = .returned (.tuple #[]) ∧ FR w' base g cap (P ++ B ++ M ++ A ++ Q) ∧ Below base w w' := by
  have H := Aside0.mk h
  have HN := Aside0.mk hN
  have hbn : b + n ≤ N := by simp at hN; omega
  have han : a + n ≤ b := by omega
  clear h hN
  go_enter Try.func52, Try.ntmps52
  go_wp2
  go_loopw [10] (fun i wr => ∃ (k : Nat), k ≤ n ∧ i = .int .i64 (k : Int) ∧ FR wr base g cap (P ++ (B.take k ++ A.drop k) ++ M ++ (A.take k ++ B.drop k) ++ Q) ∧ Below base w wr) (fun i _ => n - (intOf i).toNat)
  case atStart => exact ⟨0, Nat.zero_le _, rfl, H.out.as (by simp), Below.refl _ _⟩
  case round =>
    obtain ⟨k, hk, rfl, hR, hb⟩ := hrel
    by_cases hlt : k < n
    · obtain ⟨x, hx⟩ : ∃ x, A[k]? = some x := ⟨_, List.getElem?_eq_getElem (by omega)⟩
      obtain ⟨y, hy⟩ : ∃ y, B[k]? = some y := ⟨_, List.getElem?_eq_getElem (by omega)⟩
      have eA : A.drop k = x :: A.drop (k + 1) := by obtain ⟨hl, rfl⟩ := List.getElem?_eq_some_iff.1 hx; exact List.drop_eq_getElem_cons hl
      have eB : B.drop k = y :: B.drop (k + 1) := by obtain ⟨hl, rfl⟩ := List.getElem?_eq_some_iff.1 hy; exact List.drop_eq_getElem_cons hl
      have eS : P ++ (B.take k ++ A.drop k) ++ M ++ (A.take k ++ B.drop k) ++ Q = (P ++ B.take k) ++ x :: (A.drop (k + 1) ++ M ++ A.take k) ++ y :: (B.drop (k + 1) ++ Q) := by
        rw [eA, eB]; simp
      have eT : P ++ (B.take (k + 1) ++ A.drop (k + 1)) ++ M ++ (A.take (k + 1) ++ B.drop (k + 1)) ++ Q = (P ++ B.take k) ++ y :: (A.drop (k + 1) ++ M ++ A.take k) ++ x :: (B.drop (k + 1) ++ Q) := by
        rw [List.take_add_one, List.take_add_one, hx, hy]; simp
      rw [eS] at hR
      have l1 : (P ++ B.take k).length = a + k := by simp; omega
      have l2 : (P ++ B.take k).length + 1 + (A.drop (k + 1) ++ M ++ A.take k).length = b + k := by simp; omega
      obtain ⟨g1, g2⟩ := get_two (P ++ B.take k) (A.drop (k + 1) ++ M ++ A.take k) (B.drop (k + 1) ++ Q) x y (a + k) (b + k) l1 l2
      have sw := swap_two (P ++ B.take k) (A.drop (k + 1) ++ M ++ A.take k) (B.drop (k + 1) ++ Q) x y (a + k) (b + k) l1 l2
      obtain ⟨c1, f1⟩ := hR.cell g1
      obtain ⟨c2, f2⟩ := hR.cell g2
      have RT := Aside0.mk (((hR.put (a + k) y).put (b + k) x).as (sw.trans eT.symm))
      have BT := Aside0.mk ((hb.setCell (p := ⟨g, a + k, none⟩) hR.base (.float .f64 y)).setCell (p := ⟨g, b + k, none⟩) hR.base (.float .f64 x))
      have hst := store_float
      have e1 : ((a : Int) + (k : Int)).toNat = a + k := by omega
      have e2 : ((b : Int) + (k : Int)).toNat = b + k := by omega
      have p1 : (a : Int) + (k : Int) < N := by omega
      have p2 : (b : Int) + (k : Int) < N := by omega
      have p3 : (0 : Int) ≤ (a : Int) + (k : Int) := by omega
      have p4 : (0 : Int) ≤ (b : Int) + (k : Int) := by omega
      have hne : ¬ (a + k = b + k) := by omega
      have hne' : ¬ (b + k = a + k) := by omega
      clear hR hb eA eB eS eT l1 l2 g1 g2 sw hx hy
      go_wp2_with fail
      go_big_region
      all_goals go_wp2
      go_roundw
      case rel => exact ⟨k + 1, hlt, by go_num, RT.out.drew, BT.out.drew⟩
      case measure =>
        simp [intOf]
        go_num
    · obtain rfl : k = n := by omega
      have RR := Aside0.mk hR
      have BB := Aside0.mk hb
      clear hR hb
      go_wp2
      go_returns
      refine ⟨rfl, RR.out.as ?_, BB.out⟩
      rw [List.take_of_length_le (by omega), List.take_of_length_le (by omega), List.drop_of_length_le (by omega), List.drop_of_length_le (by omega)]
      simp
theorem swapR_as {w : World} {base g cap : Nat} {L L' : List Nat} (P A M B Q : List Nat) (N a b n : Nat) (F : Value) (h : FR w base g cap L) (e : L = P ++ A ++ M ++ B ++ Q) (e' : P ++ B ++ M ++ A ++ Q = L') (hN : L.length = N) (hA : A.length = n) (hB : B.length = n) (ha : P.length = a) (hb : P.length + n + M.length = b) (hl : N ≤ 4096) :
    Calls Try.prog 52 #[.slice (some ⟨g, 0, none⟩) N cap, .int .i64 a, .int .i64 b, .int .i64 n, F] w fun e w' => e = .returned (.tuple #[]) ∧ FR w' base g cap L' ∧ Below base w w' := by
  subst e e'
  exact swapR_calls P A M B Q N a b n F h hN hA hB ha hb hl
set_option maxHeartbeats 2000000 in
/-- U and V change places. -/
theorem rot_calls {w : World} {base g cap : Nat} (P U V Q : List Nat) (N a m b : Nat) (F : Value) (h : FR w base g cap (P ++ U ++ V ++ Q)) (hN : (P ++ U ++ V ++ Q).length = N) (ha : P.length = a) (hm : a + U.length = m) (hb : m + V.length = b) (h1 : 0 < U.length) (h2 : 0 < V.length) (hl : N ≤ 4096) :
    Calls Try.prog 51 #[.slice (some ⟨g, 0, none⟩) N cap, .int .i64 a, .int .i64 m, .int .i64 b, F] w fun e w' => e = .returned (.tuple #[]) ∧ FR w' base g cap (P ++ V ++ U ++ Q) ∧ Below base w w' := by
  have H := Aside0.mk h
  have HN := Aside0.mk hN
  have hbn : b ≤ N := by simp at hN; omega
  have hmi : (m : Int) - (a : Int) = (U.length : Int) := by omega
  have hbj : (b : Int) - (m : Int) = (V.length : Int) := by omega
  clear h hN
  go_enter Try.func51, Try.ntmps51
  go_wp2
  go_loopw [10, 11] (fun vi vj wr => ∃ (i j : Nat) (P1 U1 V1 Q1 : List Nat), vi = .int .i64 (i : Int) ∧ vj = .int .i64 (j : Int) ∧ U1.length = i ∧ V1.length = j ∧ 0 < i ∧ 0 < j ∧ P1.length + i = m ∧ (P1 ++ U1 ++ V1 ++ Q1).length = N ∧ FR wr base g cap (P1 ++ U1 ++ V1 ++ Q1) ∧ P1 ++ V1 ++ U1 ++ Q1 = P ++ V ++ U ++ Q ∧ Below base w wr) (fun vi vj _ => (intOf vi).toNat + (intOf vj).toNat)
  case atStart => exact ⟨U.length, V.length, P, U, V, Q, rfl, rfl, rfl, rfl, h1, h2, by omega, HN.out, H.out, rfl, Below.refl _ _⟩
  case round =>
    obtain ⟨i, j, P1, U1, V1, Q1, rfl, rfl, hU, hV, hi0, hj0, hP, hlen, hR, hE, hb1⟩ := hrel
    have RR := Aside0.mk hR
    have HB := Aside0.mk hb1
    have LN := Aside0.mk hlen
    have EE := Aside0.mk hE
    have hmj : m + j ≤ N := by simp at hlen; omega
    clear hR hb1 hlen hE
    rcases Nat.lt_trichotomy i j with hij | hij | hij
    · -- i < j
      have g1 : ((i : Int) = (j : Int)) = False := eq_false (by omega)
      have g2 : ((j : Int) < (i : Int)) = False := eq_false (by omega)
      obtain ⟨p, hp⟩ : ∃ p, P1.length = p := ⟨_, rfl⟩
      obtain ⟨s, hs⟩ : ∃ s, m + j - i = s := ⟨_, rfl⟩
      obtain ⟨d, hd⟩ : ∃ d, j - i = d := ⟨_, rfl⟩
      have q1 : (m : Int) - (i : Int) = (p : Int) := by omega
      have q2 : (m : Int) + (j : Int) - (i : Int) = (s : Int) := by omega
      have q3 : (j : Int) - (i : Int) = (d : Int) := by omega
      have q5 : p + i + d = s := by omega
      obtain ⟨A, B, hVe, hAl, hBl⟩ : ∃ A B, V1 = A ++ B ∧ A.length = d ∧ B.length = i := ⟨V1.take d, V1.drop d, (List.take_append_drop _ _).symm, by simp; omega, by simp; omega⟩
      go_wp2_with (first
        | (go_at_call 52; refine (swapR_as (L' := P1 ++ B ++ A ++ (U1 ++ Q1)) P1 U1 A B Q1 N p s i F RR.out (by rw [hVe]; simp) (by simp) LN.out hU hBl hp (by omega) hl).mono ?_; rintro e w3 ⟨rfl, hR3, hb3⟩; have R3 := Aside0.mk hR3; have B3 := Aside0.mk (HB.out.trans hb3); clear hR3 hb3))
      go_roundw
      case rel =>
        refine ⟨i, d, P1, B, A, U1 ++ Q1, rfl, by go_num, hBl, hAl, hi0, by omega, by omega, ?_, R3.out, ?_, B3.out⟩
        · have h_ := LN.out; simp at h_ ⊢; omega
        · rw [← EE.out, hVe]; simp
      case measure =>
        simp [intOf]
        go_num
    · subst hij
      obtain ⟨p, hp⟩ : ∃ p, P1.length = p := ⟨_, rfl⟩
      have q1 : (m : Int) - (i : Int) = (p : Int) := by omega
      go_wp2_with (first
        | (go_at_call 52; refine (swapR_as (L' := P ++ V ++ U ++ Q) P1 U1 [] V1 Q1 N p m i F RR.out (by simp) (by rw [← EE.out]; simp) LN.out hU hV hp (by simp; omega) hl).mono ?_; rintro e w3 ⟨rfl, hR3, hb3⟩; have R3 := Aside0.mk hR3; have B3 := Aside0.mk (HB.out.trans hb3); clear hR3 hb3))
      go_returns
      exact ⟨rfl, R3.out, B3.out⟩
    · -- j < i
      have g1 : ((i : Int) = (j : Int)) = False := eq_false (by omega)
      have g2 : ((j : Int) < (i : Int)) = True := eq_true (by omega)
      obtain ⟨p, hp⟩ : ∃ p, P1.length = p := ⟨_, rfl⟩
      obtain ⟨d, hd⟩ : ∃ d, i - j = d := ⟨_, rfl⟩
      have q1 : (m : Int) - (i : Int) = (p : Int) := by omega
      have q3 : (i : Int) - (j : Int) = (d : Int) := by omega
      obtain ⟨A, B, hUe, hAl, hBl⟩ : ∃ A B, U1 = A ++ B ∧ A.length = j ∧ B.length = d := ⟨U1.take j, U1.drop j, (List.take_append_drop _ _).symm, by simp; omega, by simp; omega⟩
      go_wp2_with (first
        | (go_at_call 52; refine (swapR_as (L' := (P1 ++ V1) ++ B ++ A ++ Q1) P1 A B V1 Q1 N p m j F RR.out (by rw [hUe]; simp) (by simp) LN.out hAl hV hp (by omega) hl).mono ?_; rintro e w3 ⟨rfl, hR3, hb3⟩; have R3 := Aside0.mk hR3; have B3 := Aside0.mk (HB.out.trans hb3); clear hR3 hb3))
      go_roundw
      case rel =>
        refine ⟨d, j, P1 ++ V1, B, A, Q1, by go_num, rfl, hBl, hAl, by omega, hj0, by simp; omega, ?_, R3.out, ?_, B3.out⟩
        · have h_ := LN.out; rw [hUe] at h_; simp at h_ ⊢; omega
        · rw [← EE.out, hUe]; simp
      case measure =>
        simp [intOf]
        go_num
end Go.Proofs.Ytngncegokmppiaa.Flo
