/- One number and a row that are merged: the walk. -/
import Derived.Test.YtngncegokmppiaaSymB
namespace Go.Proofs.Ytngncegokmppiaa.Flo
open Go Go.RowKit Go.Proofs.Ytngncegokmppiaa.Reg Go.Proofs.YtngncegokmppiaaW.PrintWords Go.Proofs.YtngncegokmppiaaW.PrintLast Go.Proofs.YtngncegokmppiaaW.PrintMore
set_option linter.unusedVariables false
set_option linter.unusedSimpArgs false
set_option maxRecDepth 100000 in
set_option maxHeartbeats 4000000 in
theorem symM_left {w : World} {base g cap : Nat} (P Y Q : List Nat) (x N a m b : Nat) (h : FR w base g cap (P ++ x :: Y ++ Q)) (hN : (P ++ x :: Y ++ Q).length = N) (ha : P.length = a) (hm : a + 1 = m) (hb0 : m + Y.length = b) (h2 : 0 < Y.length) (hs : Srt Y) (hl : N ≤ 4096) :
    Calls Try.prog 50 #[.slice (some ⟨g, 0, none⟩) N cap, .int .i64 a, .int .i64 m, .int .i64 b, .func (.func 11) #[] #[]] w fun e w' => e = .returned (.tuple #[]) ∧ ∃ Z, Srt Z ∧ Z.Perm (x :: Y) ∧ FR w' base g cap (P ++ Z ++ Q) ∧ Below base w w' := by
  have H := Aside0.mk h
  have HN := Aside0.mk hN
  have HS := Aside0.mk hs
  have hbn : b ≤ N := by simp at hN; omega
  have q0 : (m : Int) - (a : Int) = 1 := by omega
  have eg : ∀ args w, (callFunc 11 args).run Try.prog w = .ok (.enter 11 args) w := enters_of Try.func11 (by kernel_rfl) rfl
  clear h hN hs
  go_enter Try.func50, Try.ntmps50
  go_wp2
  go_loopw [10, 11] (fun vi vj wr => ∃ (i j : Nat), vi = .int .i64 (i : Int) ∧ vj = .int .i64 (j : Int) ∧ m ≤ i ∧ i ≤ j ∧ j ≤ b ∧ (∀ y ∈ Y.take (i - m), key y ≤ key x) ∧ (∀ y ∈ Y.drop (j - m), key x ≤ key y) ∧ FR wr base g cap (P ++ x :: Y ++ Q) ∧ Below base w wr) (fun vi vj _ => (intOf vj).toNat - (intOf vi).toNat)
  case atStart => exact ⟨m, b, rfl, rfl, Nat.le_refl _, by omega, Nat.le_refl _, by rw [Nat.sub_self]; intro y hy; simp at hy, by rw [List.drop_of_length_le (by omega)]; intro y hy; simp at hy, H.out, Below.refl _ _⟩
  case round =>
    obtain ⟨i, j, rfl, rfl, hi, hij, hj, hlo, hhi, hR, hb⟩ := hrel
    have RR := Aside0.mk hR
    have HB := Aside0.mk hb
    have LO := Aside0.mk hlo
    have HI := Aside0.mk hhi
    clear hR hb hlo hhi
    by_cases hlt : i < j
    · obtain ⟨h, hh⟩ : ∃ h : Nat, (i + j) / 2 = h := ⟨_, rfl⟩
      have qh : ((i : Int) + (j : Int)) / 2 = (h : Int) := by omega
      obtain ⟨v, hv⟩ : ∃ v, Y[h - m]? = some v := ⟨_, List.getElem?_eq_getElem (by omega)⟩
      have HV := Aside0.mk hv
      have c1 := (RR.out.cell (i := h) (x := v) (by
        rw [List.append_assoc, List.cons_append, List.getElem?_append_right (by omega), ha, show h - a = (h - m) + 1 by omega, List.getElem?_cons_succ, List.getElem?_append_left (by omega)]
        exact HV.out)).1
      have c2 := (RR.out.cell (i := a) (x := x) (by rw [List.append_assoc]; exact get_at P _ x a ha)).1
      have C1 := Aside0.mk c1
      have C2 := Aside0.mk c2
      obtain ⟨cc, hcc⟩ : ∃ cc, cmpF v x = cc := ⟨_, rfl⟩
      have CC := Aside0.mk hcc
      have hhN : h < N := by omega
      have haN : a < N := by omega
      clear c1 c2 hv hcc
      have hst := store_float
      cases hneg : decide (cc < 0) with
      | true =>
        have h0 : key v < key x := (cmpF_neg v x).1 (by rw [CC.out]; exact of_decide_eq_true hneg)
        go_wp2
        refine wp_region_text (fun W => Below wr.heap.size wr W) (fun i => [9].contains i) (by kernel_rfl) (by kernel_rfl) ((Below.refl wr.heap.size _).drew) ?_
        have JI := Aside0.mk ((Below.refl wr.heap.size wr).drew)
        have HD := Aside0.mk ((HB.out.trans (Below.refl base wr).drew))
        have RD := Aside0.mk RR.out.drew
        generalize wr.drew = wd at JI HD RD ⊢
        repeat (first
          | ((apply S_val rfl; (first | exact wanted_none rfl | exact wanted_yes rfl rfl (by kernel_rfl)); (intro W hW R hR; have z0 := cell_b hW C1.out; have z1 := cell_b hW C2.out; go_simp; exact hR)); go_frame)
          | ((refine S_call rfl ?_ ?_ (gCmp_as _ v x cc CC.out) ?_; (first | exact wanted_none rfl | exact wanted_yes rfl rfl (by kernel_rfl)); (focus (first | (go_simp; done) | (go_simp; rfl)))); rintro e wn ⟨rfl, rfl⟩; refine ⟨_, rfl, JI.out, ?_⟩; go_frame))
        apply S_nil
        go_wp2
        go_roundw
        case rel =>
          refine ⟨h + 1, j, by go_num, rfl, by omega, by omega, hj, ?_, HI.out, RD.out, HD.out⟩
          rw [show h + 1 - m = (h - m) + 1 by omega]
          exact take_all HS.out (fun y => key y ≤ key x) (fun p q h1 h2 => by omega) HV.out (by omega)
        case measure =>
          simp [intOf]
          go_num
      | false =>
        have h0 : ¬ key v < key x := fun hk => by
          have h1 := (cmpF_neg v x).2 hk
          rw [CC.out] at h1
          exact of_decide_eq_false hneg h1
        go_wp2
        refine wp_region_text (fun W => Below wr.heap.size wr W) (fun i => [9].contains i) (by kernel_rfl) (by kernel_rfl) ((Below.refl wr.heap.size _).drew) ?_
        have JI := Aside0.mk ((Below.refl wr.heap.size wr).drew)
        have HD := Aside0.mk ((HB.out.trans (Below.refl base wr).drew))
        have RD := Aside0.mk RR.out.drew
        generalize wr.drew = wd at JI HD RD ⊢
        repeat (first
          | ((apply S_val rfl; (first | exact wanted_none rfl | exact wanted_yes rfl rfl (by kernel_rfl)); (intro W hW R hR; have z0 := cell_b hW C1.out; have z1 := cell_b hW C2.out; go_simp; exact hR)); go_frame)
          | ((refine S_call rfl ?_ ?_ (gCmp_as _ v x cc CC.out) ?_; (first | exact wanted_none rfl | exact wanted_yes rfl rfl (by kernel_rfl)); (focus (first | (go_simp; done) | (go_simp; rfl)))); rintro e wn ⟨rfl, rfl⟩; refine ⟨_, rfl, JI.out, ?_⟩; go_frame))
        apply S_nil
        go_wp2
        go_roundw
        case rel =>
          refine ⟨i, h, rfl, rfl, hi, by omega, by omega, LO.out, ?_, RD.out, HD.out⟩
          exact drop_all HS.out (fun y => key x ≤ key y) (fun p q h1 h2 => by omega) HV.out (by omega)
        case measure =>
          simp [intOf]
          go_num
    · obtain rfl : i = j := by omega
      have PS := Aside0.mk (put_srt HS.out x (i - m) LO.out HI.out)
      have hiN : i ≤ N := by omega
      obtain ⟨wz, hwz⟩ : ∃ wz, wz = wr := ⟨_, rfl⟩
      subst hwz
      clear LO HI hij hlt H
      go_wp2
      go_loopw [13] (fun vk wr => ∃ (k : Nat), vk = .int .i64 (k : Int) ∧ a ≤ k ∧ k + 1 ≤ i ∧ FR wr base g cap (P ++ (Y.take (k - a) ++ x :: Y.drop (k - a)) ++ Q) ∧ Below base w wr) (fun vk _ => i - (intOf vk).toNat)
      case atStart => exact ⟨a, rfl, Nat.le_refl _, by omega, by rw [Nat.sub_self]; exact RR.out, HB.out⟩
      case round =>
        obtain ⟨k, rfl, hak, hki, hR, hb⟩ := hrel
        by_cases hlk : k + 1 < i
        · obtain ⟨y, hy⟩ : ∃ y, Y[k - a]? = some y := ⟨_, List.getElem?_eq_getElem (by omega)⟩
          have eY : Y.drop (k - a) = y :: Y.drop (k - a + 1) := by obtain ⟨hl, rfl⟩ := List.getElem?_eq_some_iff.1 hy; exact List.drop_eq_getElem_cons hl
          have eS : P ++ (Y.take (k - a) ++ x :: Y.drop (k - a)) ++ Q = (P ++ Y.take (k - a)) ++ x :: [] ++ y :: (Y.drop (k - a + 1) ++ Q) := by rw [eY]; simp
          have eT : P ++ (Y.take (k + 1 - a) ++ x :: Y.drop (k + 1 - a)) ++ Q = (P ++ Y.take (k - a)) ++ y :: [] ++ x :: (Y.drop (k - a + 1) ++ Q) := by
            rw [show k + 1 - a = k - a + 1 by omega, List.take_add_one, hy]; simp
          rw [eS] at hR
          have l1 : (P ++ Y.take (k - a)).length = k := by simp; omega
          have l2 : (P ++ Y.take (k - a)).length + 1 + ([] : List Nat).length = k + 1 := by simp; omega
          obtain ⟨g1, g2⟩ := get_two (P ++ Y.take (k - a)) [] (Y.drop (k - a + 1) ++ Q) x y k (k + 1) l1 l2
          have sw := swap_two (P ++ Y.take (k - a)) [] (Y.drop (k - a + 1) ++ Q) x y k (k + 1) l1 l2
          obtain ⟨c1, f1⟩ := hR.cell g1
          obtain ⟨c2, f2⟩ := hR.cell g2
          have RT := Aside0.mk (((hR.put k y).put (k + 1) x).as (sw.trans eT.symm))
          have BT := Aside0.mk ((hb.setCell (p := ⟨g, k, none⟩) hR.base (.float .f64 y)).setCell (p := ⟨g, k + 1, none⟩) hR.base (.float .f64 x))
          have hst := store_float
          have e1 : ((k : Int) + 1).toNat = k + 1 := by omega
          have p1 : (k : Int) + 1 < N := by omega
          have p2 : (k : Int) < N := by omega
          have p3 : (0 : Int) ≤ (k : Int) + 1 := by omega
          have p4 : ((k : Int) < (i : Int) - 1) = True := eq_true (by omega)
          have p5 : decide ((k : Int) < (i : Int) - 1) = true := decide_eq_true (by omega)
          clear hR hb eY eS eT l1 l2 g1 g2 sw hy
          go_wp2_with fail
          go_big_region
          all_goals go_wp2
          go_roundw
          case rel => exact ⟨k + 1, by go_num, by omega, by omega, RT.out.drew, BT.out.drew⟩
          case measure =>
            simp [intOf]
            go_num
        · have RX := Aside0.mk (hR.as (by rw [show k - a = i - m by omega]))
          have BX := Aside0.mk hb
          have p4 : ((k : Int) < (i : Int) - 1) = False := eq_false (by omega)
          have p5 : decide ((k : Int) < (i : Int) - 1) = false := decide_eq_false (by omega)
          clear hR hb
          go_wp2
          go_returns
          exact ⟨rfl, _, PS.out.1, PS.out.2, RX.out, BX.out⟩
end Go.Proofs.Ytngncegokmppiaa.Flo
