/- A row and one number that are merged: the walk. -/
import Derived.Test.YtngncegokmppiaaSymC
namespace Go.Proofs.Ytngncegokmppiaa.Flo
open Go Go.RowKit Go.Proofs.Ytngncegokmppiaa.Reg Go.Proofs.YtngncegokmppiaaW.PrintWords Go.Proofs.YtngncegokmppiaaW.PrintLast Go.Proofs.YtngncegokmppiaaW.PrintMore
set_option linter.unusedVariables false
set_option linter.unusedSimpArgs false
set_option maxRecDepth 100000 in
set_option maxHeartbeats 4000000 in
theorem symM_right {w : World} {base g cap : Nat} (P X Q : List Nat) (y N a m b : Nat) (h : FR w base g cap (P ++ X ++ y :: Q)) (hN : (P ++ X ++ y :: Q).length = N) (ha : P.length = a) (hm : a + X.length = m) (hb0 : m + 1 = b) (h2 : 1 < X.length) (hs : Srt X) (hl : N ≤ 4096) :
    Calls Try.prog 50 #[.slice (some ⟨g, 0, none⟩) N cap, .int .i64 a, .int .i64 m, .int .i64 b, .func (.func 11) #[] #[]] w fun e w' => e = .returned (.tuple #[]) ∧ ∃ Z, Srt Z ∧ Z.Perm (y :: X) ∧ FR w' base g cap (P ++ Z ++ Q) ∧ Below base w w' := by
  have H := Aside0.mk h
  have HN := Aside0.mk hN
  have HS := Aside0.mk hs
  have hbn : b ≤ N := by simp at hN; omega
  have q0 : ((m : Int) - (a : Int) == 1) = false := by rw [beq_eq_false_iff_ne]; omega
  have q1 : (b : Int) - (m : Int) = 1 := by omega
  have eg : ∀ args w, (callFunc 11 args).run Try.prog w = .ok (.enter 11 args) w := enters_of Try.func11 (by kernel_rfl) rfl
  clear h hN hs
  go_enter Try.func50, Try.ntmps50
  go_wp2
  go_loopw [14, 15] (fun vi vj wr => ∃ (i j : Nat), vi = .int .i64 (i : Int) ∧ vj = .int .i64 (j : Int) ∧ a ≤ i ∧ i ≤ j ∧ j ≤ m ∧ (∀ x ∈ X.take (i - a), key x ≤ key y) ∧ (∀ x ∈ X.drop (j - a), key y ≤ key x) ∧ FR wr base g cap (P ++ X ++ y :: Q) ∧ Below base w wr) (fun vi vj _ => (intOf vj).toNat - (intOf vi).toNat)
  case atStart => exact ⟨a, m, rfl, rfl, Nat.le_refl _, by omega, Nat.le_refl _, by rw [Nat.sub_self]; intro y hy; simp at hy, by rw [List.drop_of_length_le (by omega)]; intro y hy; simp at hy, H.out, Below.refl _ _⟩
  case round =>
    obtain ⟨i, j, rfl, rfl, hi, hij, hj, hlo, hhi, hR, hb⟩ := hrel
    have RR := Aside0.mk hR
    have HB := Aside0.mk hb
    have LO := Aside0.mk hlo
    have HI := Aside0.mk hhi
    clear hR hb hlo hhi
    by_cases hlt : i < j
    · obtain ⟨h, hh⟩ : ∃ h : Nat, (i + j) / 2 = h := ⟨_, rfl⟩
      have qh : ((i : Int) + (j : Int)) / 2 = (h : Int) := by omega
      obtain ⟨v, hv⟩ : ∃ v, X[h - a]? = some v := ⟨_, List.getElem?_eq_getElem (by omega)⟩
      have HV := Aside0.mk hv
      have c1 := (RR.out.cell (i := h) (x := v) (by
        rw [List.append_assoc, List.getElem?_append_right (by omega), ha, List.getElem?_append_left (by omega)]
        exact HV.out)).1
      have c2 := (RR.out.cell (i := m) (x := y) (get_at (P ++ X) Q y m (by simp; omega))).1
      have C1 := Aside0.mk c1
      have C2 := Aside0.mk c2
      obtain ⟨cc, hcc⟩ : ∃ cc, cmpF y v = cc := ⟨_, rfl⟩
      have CC := Aside0.mk hcc
      have hhN : h < N := by omega
      have haN : m < N := by omega
      clear c1 c2 hv hcc
      cases hneg : decide (cc < 0) with
      | true =>
        have h0 : key y < key v := (cmpF_neg y v).1 (by rw [CC.out]; exact of_decide_eq_true hneg)
        go_wp2
        refine wp_region_text (fun W => Below wr.heap.size wr W) (fun i => [9].contains i) (by kernel_rfl) (by kernel_rfl) ((Below.refl wr.heap.size _).drew) ?_
        have JI := Aside0.mk ((Below.refl wr.heap.size wr).drew)
        have HD := Aside0.mk ((HB.out.trans (Below.refl base wr).drew))
        have RD := Aside0.mk RR.out.drew
        generalize wr.drew = wd at JI HD RD ⊢
        repeat (first
          | ((apply S_val rfl; (first | exact wanted_none rfl | exact wanted_yes rfl rfl (by kernel_rfl)); (intro W hW R hR; have z0 := cell_b hW C1.out; have z1 := cell_b hW C2.out; go_simp; exact hR)); go_frame)
          | ((refine S_call rfl ?_ ?_ (gCmp_as _ y v cc CC.out) ?_; (first | exact wanted_none rfl | exact wanted_yes rfl rfl (by kernel_rfl)); (focus (first | (go_simp; done) | (go_simp; rfl)))); rintro e wn ⟨rfl, rfl⟩; refine ⟨_, rfl, JI.out, ?_⟩; go_frame))
        apply S_nil
        go_wp2
        go_roundw
        case rel =>
          refine ⟨i, h, rfl, rfl, hi, by omega, by omega, LO.out, ?_, RD.out, HD.out⟩
          exact drop_all HS.out (fun x => key y ≤ key x) (fun p q h1 h2 => by omega) HV.out (by omega)
        case measure =>
          simp [intOf]
          go_num
      | false =>
        have h0 : ¬ key y < key v := fun hk => by
          have h1 := (cmpF_neg y v).2 hk
          rw [CC.out] at h1
          exact of_decide_eq_false hneg h1
        have h00 : 0 ≤ cc := by have := of_decide_eq_false hneg; omega
        have hneg2 : decide (0 ≤ cc) = true := decide_eq_true h00
        go_wp2
        refine wp_region_text (fun W => Below wr.heap.size wr W) (fun i => [9].contains i) (by kernel_rfl) (by kernel_rfl) ((Below.refl wr.heap.size _).drew) ?_
        have JI := Aside0.mk ((Below.refl wr.heap.size wr).drew)
        have HD := Aside0.mk ((HB.out.trans (Below.refl base wr).drew))
        have RD := Aside0.mk RR.out.drew
        generalize wr.drew = wd at JI HD RD ⊢
        repeat (first
          | ((apply S_val rfl; (first | exact wanted_none rfl | exact wanted_yes rfl rfl (by kernel_rfl)); (intro W hW R hR; have z0 := cell_b hW C1.out; have z1 := cell_b hW C2.out; go_simp; exact hR)); go_frame)
          | ((refine S_call rfl ?_ ?_ (gCmp_as _ y v cc CC.out) ?_; (first | exact wanted_none rfl | exact wanted_yes rfl rfl (by kernel_rfl)); (focus (first | (go_simp; done) | (go_simp; rfl)))); rintro e wn ⟨rfl, rfl⟩; refine ⟨_, rfl, JI.out, ?_⟩; go_frame))
        apply S_nil
        go_wp2
        go_roundw
        case rel =>
          refine ⟨h + 1, j, by go_num, rfl, by omega, by omega, hj, ?_, HI.out, RD.out, HD.out⟩
          rw [show h + 1 - a = (h - a) + 1 by omega]
          exact take_all HS.out (fun x => key x ≤ key y) (fun p q h1 h2 => by omega) HV.out (by omega)
        case measure =>
          simp [intOf]
          go_num
    · obtain rfl : i = j := by omega
      have PS := Aside0.mk (put_srt HS.out y (i - a) LO.out HI.out)
      have hiN : i ≤ N := by omega
      obtain ⟨wz, hwz⟩ : ∃ wz, wz = wr := ⟨_, rfl⟩
      subst hwz
      clear LO HI hij hlt H
      go_wp2
      go_loopw [17] (fun vk wr => ∃ (k : Nat), vk = .int .i64 (k : Int) ∧ i ≤ k ∧ k ≤ m ∧ FR wr base g cap (P ++ (X.take (k - a) ++ y :: X.drop (k - a)) ++ Q) ∧ Below base w wr) (fun vk _ => (intOf vk).toNat - i)
      case atStart => exact ⟨m, rfl, by omega, Nat.le_refl _, RR.out.as (by rw [List.take_of_length_le (by omega), List.drop_of_length_le (by omega)]; simp), HB.out⟩
      case round =>
        obtain ⟨k, rfl, hik, hkm, hR, hb⟩ := hrel
        by_cases hlk : i < k
        · obtain ⟨t, rfl⟩ : ∃ t, k = t + 1 := ⟨k - 1, by omega⟩
          obtain ⟨x, hx⟩ : ∃ x, X[t - a]? = some x := ⟨_, List.getElem?_eq_getElem (by omega)⟩
          have eX : X.drop (t - a) = x :: X.drop (t - a + 1) := by obtain ⟨hl, rfl⟩ := List.getElem?_eq_some_iff.1 hx; exact List.drop_eq_getElem_cons hl
          have eS : P ++ (X.take (t + 1 - a) ++ y :: X.drop (t + 1 - a)) ++ Q = (P ++ X.take (t - a)) ++ x :: [] ++ y :: (X.drop (t - a + 1) ++ Q) := by
            rw [show t + 1 - a = t - a + 1 by omega, List.take_add_one, hx]; simp
          have eT : P ++ (X.take (t - a) ++ y :: X.drop (t - a)) ++ Q = (P ++ X.take (t - a)) ++ y :: [] ++ x :: (X.drop (t - a + 1) ++ Q) := by rw [eX]; simp
          rw [eS] at hR
          have l1 : (P ++ X.take (t - a)).length = t := by simp; omega
          have l2 : (P ++ X.take (t - a)).length + 1 + ([] : List Nat).length = t + 1 := by simp; omega
          obtain ⟨g1, g2⟩ := get_two (P ++ X.take (t - a)) [] (X.drop (t - a + 1) ++ Q) x y t (t + 1) l1 l2
          have sw := swap_two (P ++ X.take (t - a)) [] (X.drop (t - a + 1) ++ Q) x y t (t + 1) l1 l2
          obtain ⟨c1, f1⟩ := hR.cell g1
          obtain ⟨c2, f2⟩ := hR.cell g2
          have RT := Aside0.mk (((hR.put (t + 1) x).put t y).as ((List.set_comm _ _ (by omega)).trans (sw.trans eT.symm)))
          have BT := Aside0.mk ((hb.setCell (p := ⟨g, t + 1, none⟩) hR.base (.float .f64 x)).setCell (p := ⟨g, t, none⟩) hR.base (.float .f64 y))
          have hst := store_float
          have e0 : ((t + 1 : Nat) : Int) = (t : Int) + 1 := by omega
          have e1 : ((t : Int) + 1).toNat = t + 1 := by omega
          have e3 : (t : Int) + 1 - 1 = (t : Int) := by omega
          have hwk : IntKind.i64.wrap (t : Int) = (t : Int) := IntWalk.i64_in _ (by omega)
          have p1 : (t : Int) + 1 < N := by omega
          have p2 : (t : Int) < N := by omega
          have p3 : (0 : Int) ≤ (t : Int) + 1 := by omega
          have p4 : ((i : Int) < (t : Int) + 1) = True := eq_true (by omega)
          have p5 : decide ((i : Int) < (t : Int) + 1) = true := decide_eq_true (by omega)
          rw [e0]
          clear hR hb eX eS eT l1 l2 g1 g2 sw hx
          go_wp2_with fail
          go_big_region
          all_goals go_wp2
          go_roundw
          case rel => exact ⟨t, by go_num, by omega, by omega, RT.out.drew, BT.out.drew⟩
          case measure =>
            simp [intOf]
            go_num
        · have RX := Aside0.mk (hR.as (by rw [show k - a = i - a by omega]))
          have BX := Aside0.mk hb
          have p5 : decide ((i : Int) < (k : Int)) = false := decide_eq_false (by omega)
          clear hR hb
          go_wp2
          go_returns
          exact ⟨rfl, _, PS.out.1, PS.out.2, RX.out, BX.out⟩
end Go.Proofs.Ytngncegokmppiaa.Flo
