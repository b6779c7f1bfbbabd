/- Two rows that are merged: the walk. -/
import Derived.Test.YtngncegokmppiaaSymM
namespace Go.Proofs.Ytngncegokmppiaa.Flo
open Go Go.RowKit Go.Proofs.Ytngncegokmppiaa.Reg Go.Proofs.YtngncegokmppiaaW.PrintWords Go.Proofs.YtngncegokmppiaaW.PrintLast Go.Proofs.YtngncegokmppiaaW.PrintMore
set_option linter.unusedVariables false
set_option linter.unusedSimpArgs false
/-- Where the search stands: what is told of the places ahead of it and behind it. -/
def LoT (X Y : List Nat) (i j : Nat) : Prop := i = 0 ∨ Y.length ≤ j ∨ ∃ u v, X[i - 1]? = some u ∧ Y[j]? = some v ∧ key u ≤ key v
theorem LoT.le {X Y : List Nat} (hx : Srt X) (hy : Srt Y) {i j : Nat} (h : LoT X Y i j) : ∀ x ∈ X.take i, ∀ y ∈ Y.drop j, key x ≤ key y := by
  rcases h with rfl | h | ⟨u, v, hu, hv, hk⟩
  · intro x hx'; simp at hx'
  · rw [List.drop_of_length_le h]; intro x _ y hy'; simp at hy'
  · by_cases h0 : i = 0
    · subst h0; intro x hx'; simp at hx'
    · have := cross_le hx hy hu hv hk
      rw [show i - 1 + 1 = i by omega] at this
      exact this
set_option maxRecDepth 100000 in
set_option maxHeartbeats 16000000 in
theorem symM_calls : ∀ (s : Nat) {w : World} {base g cap : Nat} (P X Y Q : List Nat) (N a m b : Nat), FR w base g cap (P ++ X ++ Y ++ Q) → (P ++ X ++ Y ++ Q).length = N → P.length = a → a + X.length = m → m + Y.length = b → 0 < X.length → 0 < Y.length → Srt X → Srt Y → X.length + Y.length ≤ s → N ≤ 4096 →
    Calls Try.prog 50 #[.slice (some ⟨g, 0, none⟩) N cap, .int .i64 a, .int .i64 m, .int .i64 b, .func (.func 11) #[] #[]] w fun e w' => e = .returned (.tuple #[]) ∧ ∃ Z, Srt Z ∧ Z.Perm (X ++ Y) ∧ FR w' base g cap (P ++ Z ++ Q) ∧ Below base w w' := by
  intro s
  induction s with
  | zero => intro w base g cap P X Y Q N a m b _ _ _ _ _ h1 _ _ _ h2; omega
  | succ s ih =>
    intro w base g cap P X Y Q N a m b h hN ha hm hb0 hx0 hy0 hsx hsy hss hl
    by_cases hx1 : X.length = 1
    · obtain ⟨x, rfl⟩ := List.length_eq_one_iff.1 hx1
      exact symM_left P Y Q x N a m b (h.as (by simp)) (by rw [← hN]; simp) ha (by simpa using hm) hb0 hy0 hsy hl
    by_cases hy1 : Y.length = 1
    · obtain ⟨y, rfl⟩ := List.length_eq_one_iff.1 hy1
      refine (symM_right P X Q y N a m b (h.as (by simp)) (by rw [← hN]; simp) ha hm (by simpa using hb0) (by omega) hsx hl).mono ?_
      rintro e w' ⟨rfl, Z, h1, h2, h3, h4⟩
      exact ⟨rfl, Z, h1, h2.trans (List.perm_append_comm (l₁ := [y])), h3, h4⟩
    have H := Aside0.mk h
    have HN := Aside0.mk hN
    have SX := Aside0.mk hsx
    have SY := Aside0.mk hsy
    have IH := Aside0.mk @ih
    have hbn : b ≤ N := by simp at hN; omega
    have q0 : ((m : Int) - (a : Int) == 1) = false := by rw [beq_eq_false_iff_ne]; omega
    have q1 : ((b : Int) - (m : Int) == 1) = false := by rw [beq_eq_false_iff_ne]; omega
    obtain ⟨mid, hmid⟩ : ∃ mid : Nat, (a + b) / 2 = mid := ⟨_, rfl⟩
    have q2 : ((a : Int) + (b : Int)) / 2 = (mid : Int) := by omega
    obtain ⟨n, hn⟩ : ∃ n : Nat, mid + m = n := ⟨_, rfl⟩
    have q3 : (mid : Int) + (m : Int) = (n : Int) := by omega
    obtain ⟨p, hp⟩ : ∃ p : Nat, n - 1 = p := ⟨_, rfl⟩
    have q5 : (n : Int) - 1 = (p : Int) := by omega
    have eg : ∀ args w, (callFunc 11 args).run Try.prog w = .ok (.enter 11 args) w := enters_of Try.func11 (by kernel_rfl) rfl
    clear h hN hsx hsy ih
    obtain ⟨st0, hst0⟩ : ∃ st0 : Nat, (if mid < m then n - b else a) = st0 := ⟨_, rfl⟩
    obtain ⟨r0, hr0⟩ : ∃ r0 : Nat, (if mid < m then mid else m) = r0 := ⟨_, rfl⟩
    have f1 : a ≤ st0 ∧ n ≤ st0 + b ∧ st0 ≤ r0 ∧ r0 ≤ m ∧ r0 ≤ mid := by
      rw [← hst0, ← hr0]
      split <;> omega
    have f2 : LoT X Y (st0 - a) (n - st0 - m) := by
      rw [← hst0]
      split
      · exact .inr (.inl (by omega))
      · exact .inl (by omega)
    have f3 : LoT Y X (n - r0 - m) (r0 - a) := by
      rw [← hr0]
      split
      · exact .inl (by omega)
      · exact .inr (.inl (by omega))
    have F2 := Aside0.mk f2
    have F3 := Aside0.mk f3
    clear f2 f3
    by_cases hmm : mid < m
    · rw [if_pos hmm] at hst0 hr0
      have gm : decide ((mid : Int) < (m : Int)) = true := decide_eq_true (by omega)
      have q4 : (n : Int) - (b : Int) = (st0 : Int) := by omega
      subst hr0
      go_enter Try.func50, Try.ntmps50
      go_wp2
      go_loopw [20, 21] (fun vi vj wr => ∃ (i j : Nat), vi = .int .i64 (i : Int) ∧ vj = .int .i64 (j : Int) ∧ a ≤ i ∧ n ≤ i + b ∧ i ≤ j ∧ j ≤ m ∧ j ≤ mid ∧ LoT X Y (i - a) (n - i - m) ∧ LoT Y X (n - j - m) (j - a) ∧ FR wr base g cap (P ++ X ++ Y ++ Q) ∧ Below base w wr) (fun vi vj _ => (intOf vj).toNat - (intOf vi).toNat)
      case atStart => exact ⟨_, _, rfl, rfl, f1.1, f1.2.1, f1.2.2.1, f1.2.2.2.1, f1.2.2.2.2, F2.out, F3.out, H.out, Below.refl _ _⟩
      case round =>
        obtain ⟨i, j, rfl, rfl, hai, hni, hij, hjm, hjd, hlo, hhi, hR, hb⟩ := hrel
        have RR := Aside0.mk hR
        have HB := Aside0.mk hb
        have LO := Aside0.mk hlo
        have HI := Aside0.mk hhi
        clear hR hb hlo hhi H F2 F3
        by_cases hlt : i < j
        · obtain ⟨h, hh⟩ : ∃ h : Nat, (i + j) / 2 = h := ⟨_, rfl⟩
          have qh : ((i : Int) + (j : Int)) / 2 = (h : Int) := by omega
          obtain ⟨k, hk⟩ : ∃ k : Nat, n - 1 - h = k := ⟨_, rfl⟩
          have qk : (p : Int) - (h : Int) = (k : Int) := by omega
          have hwk : IntKind.i64.wrap (k : Int) = (k : Int) := IntWalk.i64_in _ (by omega)
          obtain ⟨u, hu⟩ : ∃ u, X[h - a]? = some u := ⟨_, List.getElem?_eq_getElem (by omega)⟩
          obtain ⟨v, hv⟩ : ∃ v, Y[k - m]? = some v := ⟨_, List.getElem?_eq_getElem (by omega)⟩
          have HU := Aside0.mk hu
          have HV := Aside0.mk hv
          have c1 := (RR.out.cell (i := k) (x := v) (by
            rw [List.append_assoc, List.append_assoc, List.getElem?_append_right (by omega), ha, List.getElem?_append_right (by omega), show k - a - X.length = k - m by omega, List.getElem?_append_left (by omega)]
            exact HV.out)).1
          have c2 := (RR.out.cell (i := h) (x := u) (by
            rw [List.append_assoc, List.append_assoc, List.getElem?_append_right (by omega), ha, List.getElem?_append_left (by omega)]
            exact HU.out)).1
          have C1 := Aside0.mk c1
          have C2 := Aside0.mk c2
          obtain ⟨cc, hcc⟩ : ∃ cc, cmpF v u = cc := ⟨_, rfl⟩
          have CC := Aside0.mk hcc
          have hkN : k < N := by omega
          have hhN : h < N := by omega
          clear c1 c2 hu hv hcc
          cases hneg : decide (cc < 0) with
          | true =>
            have h0 : key v < key u := (cmpF_neg v u).1 (by rw [CC.out]; exact of_decide_eq_true hneg)
            go_wp2
            refine wp_region_text (fun W => Below wr.heap.size wr W) (fun i => [11].contains i) (by kernel_rfl) (by kernel_rfl) ((Below.refl wr.heap.size _).drew) ?_
            have JI := Aside0.mk ((Below.refl wr.heap.size wr).drew)
            have HD := Aside0.mk ((HB.out.trans (Below.refl base wr).drew))
            have RD := Aside0.mk RR.out.drew
            generalize wr.drew = wd at JI HD RD ⊢
            repeat (first
              | ((apply S_val rfl; (first | exact wanted_none rfl | exact wanted_yes rfl rfl (by kernel_rfl)); (intro W hW R hR; have z0 := cell_b hW C1.out; have z1 := cell_b hW C2.out; go_simp; exact hR)); go_frame)
              | ((refine S_call rfl ?_ ?_ (gCmp_as _ v u cc CC.out) ?_; (first | exact wanted_none rfl | exact wanted_yes rfl rfl (by kernel_rfl)); (focus (first | (go_simp; done) | (go_simp; rfl)))); rintro e wn ⟨rfl, rfl⟩; refine ⟨_, rfl, JI.out, ?_⟩; go_frame))
            apply S_nil
            go_wp2
            go_roundw
            case rel =>
              refine ⟨i, h, rfl, rfl, hai, hni, by omega, by omega, by omega, LO.out, ?_, RD.out, HD.out⟩
              exact .inr (.inr ⟨v, u, by rw [show n - h - m - 1 = k - m by omega]; exact HV.out, HU.out, by omega⟩)
            case measure =>
              simp [intOf]
              go_num
          | false =>
            have h0 : ¬ key v < key u := fun hk => by
              have h1 := (cmpF_neg v u).2 hk
              rw [CC.out] at h1
              exact of_decide_eq_false hneg h1
            have h00 : 0 ≤ cc := by have := of_decide_eq_false hneg; omega
            have hneg2 : decide (0 ≤ cc) = true := decide_eq_true h00
            go_wp2
            refine wp_region_text (fun W => Below wr.heap.size wr W) (fun i => [11].contains i) (by kernel_rfl) (by kernel_rfl) ((Below.refl wr.heap.size _).drew) ?_
            have JI := Aside0.mk ((Below.refl wr.heap.size wr).drew)
            have HD := Aside0.mk ((HB.out.trans (Below.refl base wr).drew))
            have RD := Aside0.mk RR.out.drew
            generalize wr.drew = wd at JI HD RD ⊢
            repeat (first
              | ((apply S_val rfl; (first | exact wanted_none rfl | exact wanted_yes rfl rfl (by kernel_rfl)); (intro W hW R hR; have z0 := cell_b hW C1.out; have z1 := cell_b hW C2.out; go_simp; exact hR)); go_frame)
              | ((refine S_call rfl ?_ ?_ (gCmp_as _ v u cc CC.out) ?_; (first | exact wanted_none rfl | exact wanted_yes rfl rfl (by kernel_rfl)); (focus (first | (go_simp; done) | (go_simp; rfl)))); rintro e wn ⟨rfl, rfl⟩; refine ⟨_, rfl, JI.out, ?_⟩; go_frame))
            apply S_nil
            go_wp2
            go_roundw
            case rel =>
              refine ⟨h + 1, j, by go_num, rfl, by omega, by omega, by omega, hjm, hjd, ?_, HI.out, RD.out, HD.out⟩
              exact .inr (.inr ⟨u, v, by rw [show h + 1 - a - 1 = h - a by omega]; exact HU.out, by rw [show n - (h + 1) - m = k - m by omega]; exact HV.out, by omega⟩)
            case measure =>
              simp [intOf]
              go_num
        · obtain rfl : i = j := by omega
          obtain ⟨ed, hed⟩ : ∃ ed : Nat, n - i = ed := ⟨_, rfl⟩
          have qe : (n : Int) - (i : Int) = (ed : Int) := by omega
          obtain ⟨X1, X2, hX, hX1, hX2⟩ : ∃ X1 X2, X = X1 ++ X2 ∧ X1.length = i - a ∧ X2.length = m - i := ⟨X.take (i - a), X.drop (i - a), (List.take_append_drop _ _).symm, by simp; omega, by simp; omega⟩
          obtain ⟨Y1, Y2, hY, hY1, hY2⟩ : ∃ Y1 Y2, Y = Y1 ++ Y2 ∧ Y1.length = ed - m ∧ Y2.length = b - ed := ⟨Y.take (ed - m), Y.drop (ed - m), (List.take_append_drop _ _).symm, by simp; omega, by simp; omega⟩
          have T1 := Aside0.mk (show ∀ x ∈ X1, ∀ y ∈ Y2, key x ≤ key y from by
            have h_ := LoT.le SX.out SY.out LO.out
            rw [show n - i - m = ed - m by omega, hX, hY, List.take_left' hX1, List.drop_left' hY1] at h_
            exact h_)
          have T2 := Aside0.mk (show ∀ y ∈ Y1, ∀ x ∈ X2, key y ≤ key x from by
            have h_ := LoT.le SY.out SX.out HI.out
            rw [show n - i - m = ed - m by omega, hX, hY, List.take_left' hY1, List.drop_left' hX1] at h_
            exact h_)
          have EX := Aside0.mk hX
          have EY := Aside0.mk hY
          have SX1 := Aside0.mk (Srt.app.1 (hX ▸ SX.out))
          have SY1 := Aside0.mk (Srt.app.1 (hY ▸ SY.out))
          have hed2 : mid - i = ed - m ∧ ed - mid = m - i := by omega
          clear hX hY LO HI
          obtain ⟨wz, hwz⟩ : ∃ wz, wz = wr := ⟨_, rfl⟩
          subst hwz
          rcases Nat.eq_zero_or_pos X1.length with x1 | x1 <;> rcases Nat.eq_zero_or_pos X2.length with x2 | x2 <;> rcases Nat.eq_zero_or_pos Y1.length with y1 | y1 <;> rcases Nat.eq_zero_or_pos Y2.length with y2 | y2
          · exfalso; omega
          · exfalso; omega
          · exfalso; omega
          · exfalso; omega
          · exfalso; omega
          · exfalso; omega
          · first
            | (exfalso; omega)
            | (have k1 : i ≤ a := by omega
               have k2 : i < m := by omega
               have k3 : m < ed := by omega
               have k4 : b ≤ ed := by omega
               have b1 : decide ((i : Int) < (m : Int)) = true := decide_eq_true (by omega)
               have b2 : decide ((m : Int) < (ed : Int)) = true := decide_eq_true (by omega)
               have b3 : decide ((a : Int) < (i : Int)) = false := decide_eq_false (by omega)
               have b4 : decide ((i : Int) < (mid : Int)) = true := decide_eq_true (by omega)
               have b5 : decide ((mid : Int) < (ed : Int)) = true := decide_eq_true (by omega)
               have b6 : decide ((ed : Int) < (b : Int)) = false := decide_eq_false (by omega)
               obtain rfl : X1 = [] := List.eq_nil_of_length_eq_zero (by omega)
               obtain rfl : Y2 = [] := List.eq_nil_of_length_eq_zero (by omega)
               go_wp2_with (first
                 | (go_at_call 51; refine (rot_calls (P ++ ([] : List Nat)) X2 Y1 (([] : List Nat) ++ Q) N i m ed _ (RR.out.as (by rw [EX.out, EY.out]; simp)) (by rw [← HN.out, EX.out, EY.out]; simp) (by (simp <;> omega)) (by omega) (by omega) (by omega) (by omega) hl).mono ?_; rintro e w3 ⟨rfl, hR3, hb3⟩; have R3 := Aside0.mk (hR3.as (show _ = P ++ (([] : List Nat) ++ Y1) ++ (X2 ++ ([] : List Nat)) ++ Q by simp)); have B3 := Aside0.mk (HB.out.trans hb3); clear hR3 hb3; obtain ⟨Z1, hZ1⟩ : ∃ Z1, Z1 = ([] : List Nat) ++ Y1 := ⟨_, rfl⟩; have ZS := Aside0.mk (show Srt Z1 by rw [hZ1]; (try simp only [List.nil_append, List.append_nil]); exact SY1.out.1); have ZP := Aside0.mk (show Z1.Perm (([] : List Nat) ++ Y1) by rw [hZ1]); have R4 := Aside0.mk (R3.out.as (show _ = P ++ Z1 ++ ((X2 ++ ([] : List Nat)) ++ Q) by rw [hZ1]; first | done | simp)); have B4 := Aside0.mk B3.out; clear hZ1; obtain ⟨Z2, hZ2⟩ : ∃ Z2, Z2 = X2 ++ ([] : List Nat) := ⟨_, rfl⟩; have ZS2 := Aside0.mk (show Srt Z2 by rw [hZ2]; (try simp only [List.nil_append, List.append_nil]); exact SX1.out.2.1); have ZP2 := Aside0.mk (show Z2.Perm (X2 ++ ([] : List Nat)) by rw [hZ2]); have R5 := Aside0.mk (R4.out.as (show _ = P ++ Z1 ++ Z2 ++ Q by rw [hZ2]; first | done | simp)); have B5 := Aside0.mk B4.out; clear hZ2))
               go_returns
               have hv := halves_srt (X1 := []) (X2 := X2) (Y1 := Y1) (Y2 := []) (EX.out ▸ SX.out) (EY.out ▸ SY.out) ZS.out ZP.out ZS2.out ZP2.out T1.out T2.out
               exact ⟨rfl, _, hv.1, by rw [EX.out, EY.out]; exact hv.2, R5.out.as (by simp), B5.out⟩)
          · first
            | (exfalso; omega)
            | (have k1 : i ≤ a := by omega
               have k2 : i < m := by omega
               have k3 : m < ed := by omega
               have k4 : ed < b := by omega
               have b1 : decide ((i : Int) < (m : Int)) = true := decide_eq_true (by omega)
               have b2 : decide ((m : Int) < (ed : Int)) = true := decide_eq_true (by omega)
               have b3 : decide ((a : Int) < (i : Int)) = false := decide_eq_false (by omega)
               have b4 : decide ((i : Int) < (mid : Int)) = true := decide_eq_true (by omega)
               have b5 : decide ((mid : Int) < (ed : Int)) = true := decide_eq_true (by omega)
               have b6 : decide ((ed : Int) < (b : Int)) = true := decide_eq_true (by omega)
               obtain rfl : X1 = [] := List.eq_nil_of_length_eq_zero (by omega)
               go_wp2_with (first
                 | (go_at_call 50; refine (IH.out (P ++ Z1) X2 Y2 Q N mid ed b (R4.out.as (by simp)) (by rw [← HN.out, EX.out, EY.out]; have h_ := ZP.out.length_eq; (simp at h_ ⊢ <;> omega)) (by have h_ := ZP.out.length_eq; (simp at h_ ⊢ <;> omega)) (by omega) (by omega) (by omega) (by omega) SX1.out.2.1 SY1.out.2.1 (by omega) hl).mono ?_; rintro e w5 ⟨rfl, Z2, hz1, hz2, hR5, hb5⟩; have ZS2 := Aside0.mk hz1; have ZP2 := Aside0.mk hz2; have R5 := Aside0.mk hR5; have B5 := Aside0.mk (B4.out.trans hb5); clear hz1 hz2 hR5 hb5)
                 | (go_at_call 51; refine (rot_calls (P ++ ([] : List Nat)) X2 Y1 (Y2 ++ Q) N i m ed _ (RR.out.as (by rw [EX.out, EY.out]; simp)) (by rw [← HN.out, EX.out, EY.out]; simp) (by (simp <;> omega)) (by omega) (by omega) (by omega) (by omega) hl).mono ?_; rintro e w3 ⟨rfl, hR3, hb3⟩; have R3 := Aside0.mk (hR3.as (show _ = P ++ (([] : List Nat) ++ Y1) ++ (X2 ++ Y2) ++ Q by simp)); have B3 := Aside0.mk (HB.out.trans hb3); clear hR3 hb3; obtain ⟨Z1, hZ1⟩ : ∃ Z1, Z1 = ([] : List Nat) ++ Y1 := ⟨_, rfl⟩; have ZS := Aside0.mk (show Srt Z1 by rw [hZ1]; (try simp only [List.nil_append, List.append_nil]); exact SY1.out.1); have ZP := Aside0.mk (show Z1.Perm (([] : List Nat) ++ Y1) by rw [hZ1]); have R4 := Aside0.mk (R3.out.as (show _ = P ++ Z1 ++ ((X2 ++ Y2) ++ Q) by rw [hZ1]; first | done | simp)); have B4 := Aside0.mk B3.out; clear hZ1))
               go_returns
               have hv := halves_srt (X1 := []) (X2 := X2) (Y1 := Y1) (Y2 := Y2) (EX.out ▸ SX.out) (EY.out ▸ SY.out) ZS.out ZP.out ZS2.out ZP2.out T1.out T2.out
               exact ⟨rfl, _, hv.1, by rw [EX.out, EY.out]; exact hv.2, R5.out.as (by simp), B5.out⟩)
          · exfalso; omega
          · first
            | (exfalso; omega)
            | (have k1 : a < i := by omega
               have k2 : m ≤ i := by omega
               have k3 : ed ≤ m := by omega
               have k4 : ed < b := by omega
               have b1 : decide ((i : Int) < (m : Int)) = false := decide_eq_false (by omega)
               have b2 : decide ((m : Int) < (ed : Int)) = false := decide_eq_false (by omega)
               have b3 : decide ((a : Int) < (i : Int)) = true := decide_eq_true (by omega)
               have b4 : decide ((i : Int) < (mid : Int)) = false := decide_eq_false (by omega)
               have b5 : decide ((mid : Int) < (ed : Int)) = false := decide_eq_false (by omega)
               have b6 : decide ((ed : Int) < (b : Int)) = true := decide_eq_true (by omega)
               obtain rfl : X2 = [] := List.eq_nil_of_length_eq_zero (by omega)
               obtain rfl : Y1 = [] := List.eq_nil_of_length_eq_zero (by omega)
               have R3 := Aside0.mk (RR.out.as (show _ = P ++ (X1 ++ ([] : List Nat)) ++ (([] : List Nat) ++ Y2) ++ Q by rw [EX.out, EY.out]; first | done | simp))
               have B3 := Aside0.mk HB.out
               obtain ⟨Z1, hZ1⟩ : ∃ Z1, Z1 = X1 ++ ([] : List Nat) := ⟨_, rfl⟩
               have ZS := Aside0.mk (show Srt Z1 by rw [hZ1]; (try simp only [List.nil_append, List.append_nil]); exact SX1.out.1)
               have ZP := Aside0.mk (show Z1.Perm (X1 ++ ([] : List Nat)) by rw [hZ1])
               have R4 := Aside0.mk (R3.out.as (show _ = P ++ Z1 ++ ((([] : List Nat) ++ Y2) ++ Q) by rw [hZ1]; first | done | simp))
               have B4 := Aside0.mk B3.out
               clear hZ1
               obtain ⟨Z2, hZ2⟩ : ∃ Z2, Z2 = ([] : List Nat) ++ Y2 := ⟨_, rfl⟩
               have ZS2 := Aside0.mk (show Srt Z2 by rw [hZ2]; (try simp only [List.nil_append, List.append_nil]); exact SY1.out.2.1)
               have ZP2 := Aside0.mk (show Z2.Perm (([] : List Nat) ++ Y2) by rw [hZ2])
               have R5 := Aside0.mk (R4.out.as (show _ = P ++ Z1 ++ Z2 ++ Q by rw [hZ2]; first | done | simp))
               have B5 := Aside0.mk B4.out
               clear hZ2
               go_wp2
               go_returns
               have hv := halves_srt (X1 := X1) (X2 := []) (Y1 := []) (Y2 := Y2) (EX.out ▸ SX.out) (EY.out ▸ SY.out) ZS.out ZP.out ZS2.out ZP2.out T1.out T2.out
               exact ⟨rfl, _, hv.1, by rw [EX.out, EY.out]; exact hv.2, R5.out.as (by simp), B5.out⟩)
          · exfalso; omega
          · first
            | (exfalso; omega)
            | (have k1 : a < i := by omega
               have k2 : m ≤ i := by omega
               have k3 : m < ed := by omega
               have k4 : ed < b := by omega
               have b1 : decide ((i : Int) < (m : Int)) = false := decide_eq_false (by omega)
               have b2 : decide ((m : Int) < (ed : Int)) = true := decide_eq_true (by omega)
               have b3 : decide ((a : Int) < (i : Int)) = true := decide_eq_true (by omega)
               have b4 : decide ((i : Int) < (mid : Int)) = true := decide_eq_true (by omega)
               have b5 : decide ((mid : Int) < (ed : Int)) = false := decide_eq_false (by omega)
               have b6 : decide ((ed : Int) < (b : Int)) = true := decide_eq_true (by omega)
               obtain rfl : X2 = [] := List.eq_nil_of_length_eq_zero (by omega)
               have R3 := Aside0.mk (RR.out.as (show _ = P ++ (X1 ++ Y1) ++ (([] : List Nat) ++ Y2) ++ Q by rw [EX.out, EY.out]; first | done | simp))
               have B3 := Aside0.mk HB.out
               go_wp2_with (first
                 | (go_at_call 50; refine (IH.out P X1 Y1 ((([] : List Nat) ++ Y2) ++ Q) N a i mid (R3.out.as (by simp)) (by rw [← HN.out, EX.out, EY.out]; (simp <;> omega)) ha (by omega) (by omega) (by omega) (by omega) SX1.out.1 SY1.out.1 (by omega) hl).mono ?_; rintro e w4 ⟨rfl, Z1, hz1, hz2, hR4, hb4⟩; have ZS := Aside0.mk hz1; have ZP := Aside0.mk hz2; have R4 := Aside0.mk hR4; have B4 := Aside0.mk (B3.out.trans hb4); clear hz1 hz2 hR4 hb4; obtain ⟨Z2, hZ2⟩ : ∃ Z2, Z2 = ([] : List Nat) ++ Y2 := ⟨_, rfl⟩; have ZS2 := Aside0.mk (show Srt Z2 by rw [hZ2]; (try simp only [List.nil_append, List.append_nil]); exact SY1.out.2.1); have ZP2 := Aside0.mk (show Z2.Perm (([] : List Nat) ++ Y2) by rw [hZ2]); have R5 := Aside0.mk (R4.out.as (show _ = P ++ Z1 ++ Z2 ++ Q by rw [hZ2]; first | done | simp)); have B5 := Aside0.mk B4.out; clear hZ2))
               go_returns
               have hv := halves_srt (X1 := X1) (X2 := []) (Y1 := Y1) (Y2 := Y2) (EX.out ▸ SX.out) (EY.out ▸ SY.out) ZS.out ZP.out ZS2.out ZP2.out T1.out T2.out
               exact ⟨rfl, _, hv.1, by rw [EX.out, EY.out]; exact hv.2, R5.out.as (by simp), B5.out⟩)
          · exfalso; omega
          · first
            | (exfalso; omega)
            | (have k1 : a < i := by omega
               have k2 : i < m := by omega
               have k3 : ed ≤ m := by omega
               have k4 : ed < b := by omega
               have b1 : decide ((i : Int) < (m : Int)) = true := decide_eq_true (by omega)
               have b2 : decide ((m : Int) < (ed : Int)) = false := decide_eq_false (by omega)
               have b3 : decide ((a : Int) < (i : Int)) = true := decide_eq_true (by omega)
               have b4 : decide ((i : Int) < (mid : Int)) = false := decide_eq_false (by omega)
               have b5 : decide ((mid : Int) < (ed : Int)) = true := decide_eq_true (by omega)
               have b6 : decide ((ed : Int) < (b : Int)) = true := decide_eq_true (by omega)
               obtain rfl : Y1 = [] := List.eq_nil_of_length_eq_zero (by omega)
               have R3 := Aside0.mk (RR.out.as (show _ = P ++ (X1 ++ ([] : List Nat)) ++ (X2 ++ Y2) ++ Q by rw [EX.out, EY.out]; first | done | simp))
               have B3 := Aside0.mk HB.out
               obtain ⟨Z1, hZ1⟩ : ∃ Z1, Z1 = X1 ++ ([] : List Nat) := ⟨_, rfl⟩
               have ZS := Aside0.mk (show Srt Z1 by rw [hZ1]; (try simp only [List.nil_append, List.append_nil]); exact SX1.out.1)
               have ZP := Aside0.mk (show Z1.Perm (X1 ++ ([] : List Nat)) by rw [hZ1])
               have R4 := Aside0.mk (R3.out.as (show _ = P ++ Z1 ++ ((X2 ++ Y2) ++ Q) by rw [hZ1]; first | done | simp))
               have B4 := Aside0.mk B3.out
               clear hZ1
               go_wp2_with (first
                 | (go_at_call 50; refine (IH.out (P ++ Z1) X2 Y2 Q N mid ed b (R4.out.as (by simp)) (by rw [← HN.out, EX.out, EY.out]; have h_ := ZP.out.length_eq; (simp at h_ ⊢ <;> omega)) (by have h_ := ZP.out.length_eq; (simp at h_ ⊢ <;> omega)) (by omega) (by omega) (by omega) (by omega) SX1.out.2.1 SY1.out.2.1 (by omega) hl).mono ?_; rintro e w5 ⟨rfl, Z2, hz1, hz2, hR5, hb5⟩; have ZS2 := Aside0.mk hz1; have ZP2 := Aside0.mk hz2; have R5 := Aside0.mk hR5; have B5 := Aside0.mk (B4.out.trans hb5); clear hz1 hz2 hR5 hb5))
               go_returns
               have hv := halves_srt (X1 := X1) (X2 := X2) (Y1 := []) (Y2 := Y2) (EX.out ▸ SX.out) (EY.out ▸ SY.out) ZS.out ZP.out ZS2.out ZP2.out T1.out T2.out
               exact ⟨rfl, _, hv.1, by rw [EX.out, EY.out]; exact hv.2, R5.out.as (by simp), B5.out⟩)
          · first
            | (exfalso; omega)
            | (have k1 : a < i := by omega
               have k2 : i < m := by omega
               have k3 : m < ed := by omega
               have k4 : b ≤ ed := by omega
               have b1 : decide ((i : Int) < (m : Int)) = true := decide_eq_true (by omega)
               have b2 : decide ((m : Int) < (ed : Int)) = true := decide_eq_true (by omega)
               have b3 : decide ((a : Int) < (i : Int)) = true := decide_eq_true (by omega)
               have b4 : decide ((i : Int) < (mid : Int)) = true := decide_eq_true (by omega)
               have b5 : decide ((mid : Int) < (ed : Int)) = true := decide_eq_true (by omega)
               have b6 : decide ((ed : Int) < (b : Int)) = false := decide_eq_false (by omega)
               obtain rfl : Y2 = [] := List.eq_nil_of_length_eq_zero (by omega)
               go_wp2_with (first
                 | (go_at_call 50; refine (IH.out P X1 Y1 ((X2 ++ ([] : List Nat)) ++ Q) N a i mid (R3.out.as (by simp)) (by rw [← HN.out, EX.out, EY.out]; (simp <;> omega)) ha (by omega) (by omega) (by omega) (by omega) SX1.out.1 SY1.out.1 (by omega) hl).mono ?_; rintro e w4 ⟨rfl, Z1, hz1, hz2, hR4, hb4⟩; have ZS := Aside0.mk hz1; have ZP := Aside0.mk hz2; have R4 := Aside0.mk hR4; have B4 := Aside0.mk (B3.out.trans hb4); clear hz1 hz2 hR4 hb4; obtain ⟨Z2, hZ2⟩ : ∃ Z2, Z2 = X2 ++ ([] : List Nat) := ⟨_, rfl⟩; have ZS2 := Aside0.mk (show Srt Z2 by rw [hZ2]; (try simp only [List.nil_append, List.append_nil]); exact SX1.out.2.1); have ZP2 := Aside0.mk (show Z2.Perm (X2 ++ ([] : List Nat)) by rw [hZ2]); have R5 := Aside0.mk (R4.out.as (show _ = P ++ Z1 ++ Z2 ++ Q by rw [hZ2]; first | done | simp)); have B5 := Aside0.mk B4.out; clear hZ2)
                 | (go_at_call 51; refine (rot_calls (P ++ X1) X2 Y1 (([] : List Nat) ++ Q) N i m ed _ (RR.out.as (by rw [EX.out, EY.out]; simp)) (by rw [← HN.out, EX.out, EY.out]; simp) (by (simp <;> omega)) (by omega) (by omega) (by omega) (by omega) hl).mono ?_; rintro e w3 ⟨rfl, hR3, hb3⟩; have R3 := Aside0.mk (hR3.as (show _ = P ++ (X1 ++ Y1) ++ (X2 ++ ([] : List Nat)) ++ Q by simp)); have B3 := Aside0.mk (HB.out.trans hb3); clear hR3 hb3))
               go_returns
               have hv := halves_srt (X1 := X1) (X2 := X2) (Y1 := Y1) (Y2 := []) (EX.out ▸ SX.out) (EY.out ▸ SY.out) ZS.out ZP.out ZS2.out ZP2.out T1.out T2.out
               exact ⟨rfl, _, hv.1, by rw [EX.out, EY.out]; exact hv.2, R5.out.as (by simp), B5.out⟩)
          · first
            | (exfalso; omega)
            | (have k1 : a < i := by omega
               have k2 : i < m := by omega
               have k3 : m < ed := by omega
               have k4 : ed < b := by omega
               have b1 : decide ((i : Int) < (m : Int)) = true := decide_eq_true (by omega)
               have b2 : decide ((m : Int) < (ed : Int)) = true := decide_eq_true (by omega)
               have b3 : decide ((a : Int) < (i : Int)) = true := decide_eq_true (by omega)
               have b4 : decide ((i : Int) < (mid : Int)) = true := decide_eq_true (by omega)
               have b5 : decide ((mid : Int) < (ed : Int)) = true := decide_eq_true (by omega)
               have b6 : decide ((ed : Int) < (b : Int)) = true := decide_eq_true (by omega)
               go_wp2_with (first
                 | (go_at_call 50; refine (IH.out (P ++ Z1) X2 Y2 Q N mid ed b (R4.out.as (by simp)) (by rw [← HN.out, EX.out, EY.out]; have h_ := ZP.out.length_eq; (simp at h_ ⊢ <;> omega)) (by have h_ := ZP.out.length_eq; (simp at h_ ⊢ <;> omega)) (by omega) (by omega) (by omega) (by omega) SX1.out.2.1 SY1.out.2.1 (by omega) hl).mono ?_; rintro e w5 ⟨rfl, Z2, hz1, hz2, hR5, hb5⟩; have ZS2 := Aside0.mk hz1; have ZP2 := Aside0.mk hz2; have R5 := Aside0.mk hR5; have B5 := Aside0.mk (B4.out.trans hb5); clear hz1 hz2 hR5 hb5)
                 | (go_at_call 50; refine (IH.out P X1 Y1 ((X2 ++ Y2) ++ Q) N a i mid (R3.out.as (by simp)) (by rw [← HN.out, EX.out, EY.out]; (simp <;> omega)) ha (by omega) (by omega) (by omega) (by omega) SX1.out.1 SY1.out.1 (by omega) hl).mono ?_; rintro e w4 ⟨rfl, Z1, hz1, hz2, hR4, hb4⟩; have ZS := Aside0.mk hz1; have ZP := Aside0.mk hz2; have R4 := Aside0.mk hR4; have B4 := Aside0.mk (B3.out.trans hb4); clear hz1 hz2 hR4 hb4)
                 | (go_at_call 51; refine (rot_calls (P ++ X1) X2 Y1 (Y2 ++ Q) N i m ed _ (RR.out.as (by rw [EX.out, EY.out]; simp)) (by rw [← HN.out, EX.out, EY.out]; simp) (by (simp <;> omega)) (by omega) (by omega) (by omega) (by omega) hl).mono ?_; rintro e w3 ⟨rfl, hR3, hb3⟩; have R3 := Aside0.mk (hR3.as (show _ = P ++ (X1 ++ Y1) ++ (X2 ++ Y2) ++ Q by simp)); have B3 := Aside0.mk (HB.out.trans hb3); clear hR3 hb3))
               go_returns
               have hv := halves_srt (X1 := X1) (X2 := X2) (Y1 := Y1) (Y2 := Y2) (EX.out ▸ SX.out) (EY.out ▸ SY.out) ZS.out ZP.out ZS2.out ZP2.out T1.out T2.out
               exact ⟨rfl, _, hv.1, by rw [EX.out, EY.out]; exact hv.2, R5.out.as (by simp), B5.out⟩)
    · rw [if_neg hmm] at hst0 hr0
      have gm : decide ((mid : Int) < (m : Int)) = false := decide_eq_false (by omega)
      subst hst0 hr0
      go_enter Try.func50, Try.ntmps50
      go_wp2
      go_loopw [20, 21] (fun vi vj wr => ∃ (i j : Nat), vi = .int .i64 (i : Int) ∧ vj = .int .i64 (j : Int) ∧ a ≤ i ∧ n ≤ i + b ∧ i ≤ j ∧ j ≤ m ∧ j ≤ mid ∧ LoT X Y (i - a) (n - i - m) ∧ LoT Y X (n - j - m) (j - a) ∧ FR wr base g cap (P ++ X ++ Y ++ Q) ∧ Below base w wr) (fun vi vj _ => (intOf vj).toNat - (intOf vi).toNat)
      case atStart => exact ⟨_, _, rfl, rfl, f1.1, f1.2.1, f1.2.2.1, f1.2.2.2.1, f1.2.2.2.2, F2.out, F3.out, H.out, Below.refl _ _⟩
      case round =>
        obtain ⟨i, j, rfl, rfl, hai, hni, hij, hjm, hjd, hlo, hhi, hR, hb⟩ := hrel
        have RR := Aside0.mk hR
        have HB := Aside0.mk hb
        have LO := Aside0.mk hlo
        have HI := Aside0.mk hhi
        clear hR hb hlo hhi H F2 F3
        by_cases hlt : i < j
        · obtain ⟨h, hh⟩ : ∃ h : Nat, (i + j) / 2 = h := ⟨_, rfl⟩
          have qh : ((i : Int) + (j : Int)) / 2 = (h : Int) := by omega
          obtain ⟨k, hk⟩ : ∃ k : Nat, n - 1 - h = k := ⟨_, rfl⟩
          have qk : (p : Int) - (h : Int) = (k : Int) := by omega
          have hwk : IntKind.i64.wrap (k : Int) = (k : Int) := IntWalk.i64_in _ (by omega)
          obtain ⟨u, hu⟩ : ∃ u, X[h - a]? = some u := ⟨_, List.getElem?_eq_getElem (by omega)⟩
          obtain ⟨v, hv⟩ : ∃ v, Y[k - m]? = some v := ⟨_, List.getElem?_eq_getElem (by omega)⟩
          have HU := Aside0.mk hu
          have HV := Aside0.mk hv
          have c1 := (RR.out.cell (i := k) (x := v) (by
            rw [List.append_assoc, List.append_assoc, List.getElem?_append_right (by omega), ha, List.getElem?_append_right (by omega), show k - a - X.length = k - m by omega, List.getElem?_append_left (by omega)]
            exact HV.out)).1
          have c2 := (RR.out.cell (i := h) (x := u) (by
            rw [List.append_assoc, List.append_assoc, List.getElem?_append_right (by omega), ha, List.getElem?_append_left (by omega)]
            exact HU.out)).1
          have C1 := Aside0.mk c1
          have C2 := Aside0.mk c2
          obtain ⟨cc, hcc⟩ : ∃ cc, cmpF v u = cc := ⟨_, rfl⟩
          have CC := Aside0.mk hcc
          have hkN : k < N := by omega
          have hhN : h < N := by omega
          clear c1 c2 hu hv hcc
          cases hneg : decide (cc < 0) with
          | true =>
            have h0 : key v < key u := (cmpF_neg v u).1 (by rw [CC.out]; exact of_decide_eq_true hneg)
            go_wp2
            refine wp_region_text (fun W => Below wr.heap.size wr W) (fun i => [11].contains i) (by kernel_rfl) (by kernel_rfl) ((Below.refl wr.heap.size _).drew) ?_
            have JI := Aside0.mk ((Below.refl wr.heap.size wr).drew)
            have HD := Aside0.mk ((HB.out.trans (Below.refl base wr).drew))
            have RD := Aside0.mk RR.out.drew
            generalize wr.drew = wd at JI HD RD ⊢
            repeat (first
              | ((apply S_val rfl; (first | exact wanted_none rfl | exact wanted_yes rfl rfl (by kernel_rfl)); (intro W hW R hR; have z0 := cell_b hW C1.out; have z1 := cell_b hW C2.out; go_simp; exact hR)); go_frame)
              | ((refine S_call rfl ?_ ?_ (gCmp_as _ v u cc CC.out) ?_; (first | exact wanted_none rfl | exact wanted_yes rfl rfl (by kernel_rfl)); (focus (first | (go_simp; done) | (go_simp; rfl)))); rintro e wn ⟨rfl, rfl⟩; refine ⟨_, rfl, JI.out, ?_⟩; go_frame))
            apply S_nil
            go_wp2
            go_roundw
            case rel =>
              refine ⟨i, h, rfl, rfl, hai, hni, by omega, by omega, by omega, LO.out, ?_, RD.out, HD.out⟩
              exact .inr (.inr ⟨v, u, by rw [show n - h - m - 1 = k - m by omega]; exact HV.out, HU.out, by omega⟩)
            case measure =>
              simp [intOf]
              go_num
          | false =>
            have h0 : ¬ key v < key u := fun hk => by
              have h1 := (cmpF_neg v u).2 hk
              rw [CC.out] at h1
              exact of_decide_eq_false hneg h1
            have h00 : 0 ≤ cc := by have := of_decide_eq_false hneg; omega
            have hneg2 : decide (0 ≤ cc) = true := decide_eq_true h00
            go_wp2
            refine wp_region_text (fun W => Below wr.heap.size wr W) (fun i => [11].contains i) (by kernel_rfl) (by kernel_rfl) ((Below.refl wr.heap.size _).drew) ?_
            have JI := Aside0.mk ((Below.refl wr.heap.size wr).drew)
            have HD := Aside0.mk ((HB.out.trans (Below.refl base wr).drew))
            have RD := Aside0.mk RR.out.drew
            generalize wr.drew = wd at JI HD RD ⊢
            repeat (first
              | ((apply S_val rfl; (first | exact wanted_none rfl | exact wanted_yes rfl rfl (by kernel_rfl)); (intro W hW R hR; have z0 := cell_b hW C1.out; have z1 := cell_b hW C2.out; go_simp; exact hR)); go_frame)
              | ((refine S_call rfl ?_ ?_ (gCmp_as _ v u cc CC.out) ?_; (first | exact wanted_none rfl | exact wanted_yes rfl rfl (by kernel_rfl)); (focus (first | (go_simp; done) | (go_simp; rfl)))); rintro e wn ⟨rfl, rfl⟩; refine ⟨_, rfl, JI.out, ?_⟩; go_frame))
            apply S_nil
            go_wp2
            go_roundw
            case rel =>
              refine ⟨h + 1, j, by go_num, rfl, by omega, by omega, by omega, hjm, hjd, ?_, HI.out, RD.out, HD.out⟩
              exact .inr (.inr ⟨u, v, by rw [show h + 1 - a - 1 = h - a by omega]; exact HU.out, by rw [show n - (h + 1) - m = k - m by omega]; exact HV.out, by omega⟩)
            case measure =>
              simp [intOf]
              go_num
        · obtain rfl : i = j := by omega
          obtain ⟨ed, hed⟩ : ∃ ed : Nat, n - i = ed := ⟨_, rfl⟩
          have qe : (n : Int) - (i : Int) = (ed : Int) := by omega
          obtain ⟨X1, X2, hX, hX1, hX2⟩ : ∃ X1 X2, X = X1 ++ X2 ∧ X1.length = i - a ∧ X2.length = m - i := ⟨X.take (i - a), X.drop (i - a), (List.take_append_drop _ _).symm, by simp; omega, by simp; omega⟩
          obtain ⟨Y1, Y2, hY, hY1, hY2⟩ : ∃ Y1 Y2, Y = Y1 ++ Y2 ∧ Y1.length = ed - m ∧ Y2.length = b - ed := ⟨Y.take (ed - m), Y.drop (ed - m), (List.take_append_drop _ _).symm, by simp; omega, by simp; omega⟩
          have T1 := Aside0.mk (show ∀ x ∈ X1, ∀ y ∈ Y2, key x ≤ key y from by
            have h_ := LoT.le SX.out SY.out LO.out
            rw [show n - i - m = ed - m by omega, hX, hY, List.take_left' hX1, List.drop_left' hY1] at h_
            exact h_)
          have T2 := Aside0.mk (show ∀ y ∈ Y1, ∀ x ∈ X2, key y ≤ key x from by
            have h_ := LoT.le SY.out SX.out HI.out
            rw [show n - i - m = ed - m by omega, hX, hY, List.take_left' hY1, List.drop_left' hX1] at h_
            exact h_)
          have EX := Aside0.mk hX
          have EY := Aside0.mk hY
          have SX1 := Aside0.mk (Srt.app.1 (hX ▸ SX.out))
          have SY1 := Aside0.mk (Srt.app.1 (hY ▸ SY.out))
          have hed2 : mid - i = ed - m ∧ ed - mid = m - i := by omega
          clear hX hY LO HI
          obtain ⟨wz, hwz⟩ : ∃ wz, wz = wr := ⟨_, rfl⟩
          subst hwz
          rcases Nat.eq_zero_or_pos X1.length with x1 | x1 <;> rcases Nat.eq_zero_or_pos X2.length with x2 | x2 <;> rcases Nat.eq_zero_or_pos Y1.length with y1 | y1 <;> rcases Nat.eq_zero_or_pos Y2.length with y2 | y2
          · exfalso; omega
          · exfalso; omega
          · exfalso; omega
          · exfalso; omega
          · exfalso; omega
          · exfalso; omega
          · first
            | (exfalso; omega)
            | (have k1 : i ≤ a := by omega
               have k2 : i < m := by omega
               have k3 : m < ed := by omega
               have k4 : b ≤ ed := by omega
               have b1 : decide ((i : Int) < (m : Int)) = true := decide_eq_true (by omega)
               have b2 : decide ((m : Int) < (ed : Int)) = true := decide_eq_true (by omega)
               have b3 : decide ((a : Int) < (i : Int)) = false := decide_eq_false (by omega)
               have b4 : decide ((i : Int) < (mid : Int)) = true := decide_eq_true (by omega)
               have b5 : decide ((mid : Int) < (ed : Int)) = true := decide_eq_true (by omega)
               have b6 : decide ((ed : Int) < (b : Int)) = false := decide_eq_false (by omega)
               obtain rfl : X1 = [] := List.eq_nil_of_length_eq_zero (by omega)
               obtain rfl : Y2 = [] := List.eq_nil_of_length_eq_zero (by omega)
               go_wp2_with (first
                 | (go_at_call 51; refine (rot_calls (P ++ ([] : List Nat)) X2 Y1 (([] : List Nat) ++ Q) N i m ed _ (RR.out.as (by rw [EX.out, EY.out]; simp)) (by rw [← HN.out, EX.out, EY.out]; simp) (by (simp <;> omega)) (by omega) (by omega) (by omega) (by omega) hl).mono ?_; rintro e w3 ⟨rfl, hR3, hb3⟩; have R3 := Aside0.mk (hR3.as (show _ = P ++ (([] : List Nat) ++ Y1) ++ (X2 ++ ([] : List Nat)) ++ Q by simp)); have B3 := Aside0.mk (HB.out.trans hb3); clear hR3 hb3; obtain ⟨Z1, hZ1⟩ : ∃ Z1, Z1 = ([] : List Nat) ++ Y1 := ⟨_, rfl⟩; have ZS := Aside0.mk (show Srt Z1 by rw [hZ1]; (try simp only [List.nil_append, List.append_nil]); exact SY1.out.1); have ZP := Aside0.mk (show Z1.Perm (([] : List Nat) ++ Y1) by rw [hZ1]); have R4 := Aside0.mk (R3.out.as (show _ = P ++ Z1 ++ ((X2 ++ ([] : List Nat)) ++ Q) by rw [hZ1]; first | done | simp)); have B4 := Aside0.mk B3.out; clear hZ1; obtain ⟨Z2, hZ2⟩ : ∃ Z2, Z2 = X2 ++ ([] : List Nat) := ⟨_, rfl⟩; have ZS2 := Aside0.mk (show Srt Z2 by rw [hZ2]; (try simp only [List.nil_append, List.append_nil]); exact SX1.out.2.1); have ZP2 := Aside0.mk (show Z2.Perm (X2 ++ ([] : List Nat)) by rw [hZ2]); have R5 := Aside0.mk (R4.out.as (show _ = P ++ Z1 ++ Z2 ++ Q by rw [hZ2]; first | done | simp)); have B5 := Aside0.mk B4.out; clear hZ2))
               go_returns
               have hv := halves_srt (X1 := []) (X2 := X2) (Y1 := Y1) (Y2 := []) (EX.out ▸ SX.out) (EY.out ▸ SY.out) ZS.out ZP.out ZS2.out ZP2.out T1.out T2.out
               exact ⟨rfl, _, hv.1, by rw [EX.out, EY.out]; exact hv.2, R5.out.as (by simp), B5.out⟩)
          · first
            | (exfalso; omega)
            | (have k1 : i ≤ a := by omega
               have k2 : i < m := by omega
               have k3 : m < ed := by omega
               have k4 : ed < b := by omega
               have b1 : decide ((i : Int) < (m : Int)) = true := decide_eq_true (by omega)
               have b2 : decide ((m : Int) < (ed : Int)) = true := decide_eq_true (by omega)
               have b3 : decide ((a : Int) < (i : Int)) = false := decide_eq_false (by omega)
               have b4 : decide ((i : Int) < (mid : Int)) = true := decide_eq_true (by omega)
               have b5 : decide ((mid : Int) < (ed : Int)) = true := decide_eq_true (by omega)
               have b6 : decide ((ed : Int) < (b : Int)) = true := decide_eq_true (by omega)
               obtain rfl : X1 = [] := List.eq_nil_of_length_eq_zero (by omega)
               go_wp2_with (first
                 | (go_at_call 50; refine (IH.out (P ++ Z1) X2 Y2 Q N mid ed b (R4.out.as (by simp)) (by rw [← HN.out, EX.out, EY.out]; have h_ := ZP.out.length_eq; (simp at h_ ⊢ <;> omega)) (by have h_ := ZP.out.length_eq; (simp at h_ ⊢ <;> omega)) (by omega) (by omega) (by omega) (by omega) SX1.out.2.1 SY1.out.2.1 (by omega) hl).mono ?_; rintro e w5 ⟨rfl, Z2, hz1, hz2, hR5, hb5⟩; have ZS2 := Aside0.mk hz1; have ZP2 := Aside0.mk hz2; have R5 := Aside0.mk hR5; have B5 := Aside0.mk (B4.out.trans hb5); clear hz1 hz2 hR5 hb5)
                 | (go_at_call 51; refine (rot_calls (P ++ ([] : List Nat)) X2 Y1 (Y2 ++ Q) N i m ed _ (RR.out.as (by rw [EX.out, EY.out]; simp)) (by rw [← HN.out, EX.out, EY.out]; simp) (by (simp <;> omega)) (by omega) (by omega) (by omega) (by omega) hl).mono ?_; rintro e w3 ⟨rfl, hR3, hb3⟩; have R3 := Aside0.mk (hR3.as (show _ = P ++ (([] : List Nat) ++ Y1) ++ (X2 ++ Y2) ++ Q by simp)); have B3 := Aside0.mk (HB.out.trans hb3); clear hR3 hb3; obtain ⟨Z1, hZ1⟩ : ∃ Z1, Z1 = ([] : List Nat) ++ Y1 := ⟨_, rfl⟩; have ZS := Aside0.mk (show Srt Z1 by rw [hZ1]; (try simp only [List.nil_append, List.append_nil]); exact SY1.out.1); have ZP := Aside0.mk (show Z1.Perm (([] : List Nat) ++ Y1) by rw [hZ1]); have R4 := Aside0.mk (R3.out.as (show _ = P ++ Z1 ++ ((X2 ++ Y2) ++ Q) by rw [hZ1]; first | done | simp)); have B4 := Aside0.mk B3.out; clear hZ1))
               go_returns
               have hv := halves_srt (X1 := []) (X2 := X2) (Y1 := Y1) (Y2 := Y2) (EX.out ▸ SX.out) (EY.out ▸ SY.out) ZS.out ZP.out ZS2.out ZP2.out T1.out T2.out
               exact ⟨rfl, _, hv.1, by rw [EX.out, EY.out]; exact hv.2, R5.out.as (by simp), B5.out⟩)
          · exfalso; omega
          · first
            | (exfalso; omega)
            | (have k1 : a < i := by omega
               have k2 : m ≤ i := by omega
               have k3 : ed ≤ m := by omega
               have k4 : ed < b := by omega
               have b1 : decide ((i : Int) < (m : Int)) = false := decide_eq_false (by omega)
               have b2 : decide ((m : Int) < (ed : Int)) = false := decide_eq_false (by omega)
               have b3 : decide ((a : Int) < (i : Int)) = true := decide_eq_true (by omega)
               have b4 : decide ((i : Int) < (mid : Int)) = false := decide_eq_false (by omega)
               have b5 : decide ((mid : Int) < (ed : Int)) = false := decide_eq_false (by omega)
               have b6 : decide ((ed : Int) < (b : Int)) = true := decide_eq_true (by omega)
               obtain rfl : X2 = [] := List.eq_nil_of_length_eq_zero (by omega)
               obtain rfl : Y1 = [] := List.eq_nil_of_length_eq_zero (by omega)
               have R3 := Aside0.mk (RR.out.as (show _ = P ++ (X1 ++ ([] : List Nat)) ++ (([] : List Nat) ++ Y2) ++ Q by rw [EX.out, EY.out]; first | done | simp))
               have B3 := Aside0.mk HB.out
               obtain ⟨Z1, hZ1⟩ : ∃ Z1, Z1 = X1 ++ ([] : List Nat) := ⟨_, rfl⟩
               have ZS := Aside0.mk (show Srt Z1 by rw [hZ1]; (try simp only [List.nil_append, List.append_nil]); exact SX1.out.1)
               have ZP := Aside0.mk (show Z1.Perm (X1 ++ ([] : List Nat)) by rw [hZ1])
               have R4 := Aside0.mk (R3.out.as (show _ = P ++ Z1 ++ ((([] : List Nat) ++ Y2) ++ Q) by rw [hZ1]; first | done | simp))
               have B4 := Aside0.mk B3.out
               clear hZ1
               obtain ⟨Z2, hZ2⟩ : ∃ Z2, Z2 = ([] : List Nat) ++ Y2 := ⟨_, rfl⟩
               have ZS2 := Aside0.mk (show Srt Z2 by rw [hZ2]; (try simp only [List.nil_append, List.append_nil]); exact SY1.out.2.1)
               have ZP2 := Aside0.mk (show Z2.Perm (([] : List Nat) ++ Y2) by rw [hZ2])
               have R5 := Aside0.mk (R4.out.as (show _ = P ++ Z1 ++ Z2 ++ Q by rw [hZ2]; first | done | simp))
               have B5 := Aside0.mk B4.out
               clear hZ2
               go_wp2
               go_returns
               have hv := halves_srt (X1 := X1) (X2 := []) (Y1 := []) (Y2 := Y2) (EX.out ▸ SX.out) (EY.out ▸ SY.out) ZS.out ZP.out ZS2.out ZP2.out T1.out T2.out
               exact ⟨rfl, _, hv.1, by rw [EX.out, EY.out]; exact hv.2, R5.out.as (by simp), B5.out⟩)
          · exfalso; omega
          · first
            | (exfalso; omega)
            | (have k1 : a < i := by omega
               have k2 : m ≤ i := by omega
               have k3 : m < ed := by omega
               have k4 : ed < b := by omega
               have b1 : decide ((i : Int) < (m : Int)) = false := decide_eq_false (by omega)
               have b2 : decide ((m : Int) < (ed : Int)) = true := decide_eq_true (by omega)
               have b3 : decide ((a : Int) < (i : Int)) = true := decide_eq_true (by omega)
               have b4 : decide ((i : Int) < (mid : Int)) = true := decide_eq_true (by omega)
               have b5 : decide ((mid : Int) < (ed : Int)) = false := decide_eq_false (by omega)
               have b6 : decide ((ed : Int) < (b : Int)) = true := decide_eq_true (by omega)
               obtain rfl : X2 = [] := List.eq_nil_of_length_eq_zero (by omega)
               have R3 := Aside0.mk (RR.out.as (show _ = P ++ (X1 ++ Y1) ++ (([] : List Nat) ++ Y2) ++ Q by rw [EX.out, EY.out]; first | done | simp))
               have B3 := Aside0.mk HB.out
               go_wp2_with (first
                 | (go_at_call 50; refine (IH.out P X1 Y1 ((([] : List Nat) ++ Y2) ++ Q) N a i mid (R3.out.as (by simp)) (by rw [← HN.out, EX.out, EY.out]; (simp <;> omega)) ha (by omega) (by omega) (by omega) (by omega) SX1.out.1 SY1.out.1 (by omega) hl).mono ?_; rintro e w4 ⟨rfl, Z1, hz1, hz2, hR4, hb4⟩; have ZS := Aside0.mk hz1; have ZP := Aside0.mk hz2; have R4 := Aside0.mk hR4; have B4 := Aside0.mk (B3.out.trans hb4); clear hz1 hz2 hR4 hb4; obtain ⟨Z2, hZ2⟩ : ∃ Z2, Z2 = ([] : List Nat) ++ Y2 := ⟨_, rfl⟩; have ZS2 := Aside0.mk (show Srt Z2 by rw [hZ2]; (try simp only [List.nil_append, List.append_nil]); exact SY1.out.2.1); have ZP2 := Aside0.mk (show Z2.Perm (([] : List Nat) ++ Y2) by rw [hZ2]); have R5 := Aside0.mk (R4.out.as (show _ = P ++ Z1 ++ Z2 ++ Q by rw [hZ2]; first | done | simp)); have B5 := Aside0.mk B4.out; clear hZ2))
               go_returns
               have hv := halves_srt (X1 := X1) (X2 := []) (Y1 := Y1) (Y2 := Y2) (EX.out ▸ SX.out) (EY.out ▸ SY.out) ZS.out ZP.out ZS2.out ZP2.out T1.out T2.out
               exact ⟨rfl, _, hv.1, by rw [EX.out, EY.out]; exact hv.2, R5.out.as (by simp), B5.out⟩)
          · exfalso; omega
          · first
            | (exfalso; omega)
            | (have k1 : a < i := by omega
               have k2 : i < m := by omega
               have k3 : ed ≤ m := by omega
               have k4 : ed < b := by omega
               have b1 : decide ((i : Int) < (m : Int)) = true := decide_eq_true (by omega)
               have b2 : decide ((m : Int) < (ed : Int)) = false := decide_eq_false (by omega)
               have b3 : decide ((a : Int) < (i : Int)) = true := decide_eq_true (by omega)
               have b4 : decide ((i : Int) < (mid : Int)) = false := decide_eq_false (by omega)
               have b5 : decide ((mid : Int) < (ed : Int)) = true := decide_eq_true (by omega)
               have b6 : decide ((ed : Int) < (b : Int)) = true := decide_eq_true (by omega)
               obtain rfl : Y1 = [] := List.eq_nil_of_length_eq_zero (by omega)
               have R3 := Aside0.mk (RR.out.as (show _ = P ++ (X1 ++ ([] : List Nat)) ++ (X2 ++ Y2) ++ Q by rw [EX.out, EY.out]; first | done | simp))
               have B3 := Aside0.mk HB.out
               obtain ⟨Z1, hZ1⟩ : ∃ Z1, Z1 = X1 ++ ([] : List Nat) := ⟨_, rfl⟩
               have ZS := Aside0.mk (show Srt Z1 by rw [hZ1]; (try simp only [List.nil_append, List.append_nil]); exact SX1.out.1)
               have ZP := Aside0.mk (show Z1.Perm (X1 ++ ([] : List Nat)) by rw [hZ1])
               have R4 := Aside0.mk (R3.out.as (show _ = P ++ Z1 ++ ((X2 ++ Y2) ++ Q) by rw [hZ1]; first | done | simp))
               have B4 := Aside0.mk B3.out
               clear hZ1
               go_wp2_with (first
                 | (go_at_call 50; refine (IH.out (P ++ Z1) X2 Y2 Q N mid ed b (R4.out.as (by simp)) (by rw [← HN.out, EX.out, EY.out]; have h_ := ZP.out.length_eq; (simp at h_ ⊢ <;> omega)) (by have h_ := ZP.out.length_eq; (simp at h_ ⊢ <;> omega)) (by omega) (by omega) (by omega) (by omega) SX1.out.2.1 SY1.out.2.1 (by omega) hl).mono ?_; rintro e w5 ⟨rfl, Z2, hz1, hz2, hR5, hb5⟩; have ZS2 := Aside0.mk hz1; have ZP2 := Aside0.mk hz2; have R5 := Aside0.mk hR5; have B5 := Aside0.mk (B4.out.trans hb5); clear hz1 hz2 hR5 hb5))
               go_returns
               have hv := halves_srt (X1 := X1) (X2 := X2) (Y1 := []) (Y2 := Y2) (EX.out ▸ SX.out) (EY.out ▸ SY.out) ZS.out ZP.out ZS2.out ZP2.out T1.out T2.out
               exact ⟨rfl, _, hv.1, by rw [EX.out, EY.out]; exact hv.2, R5.out.as (by simp), B5.out⟩)
          · first
            | (exfalso; omega)
            | (have k1 : a < i := by omega
               have k2 : i < m := by omega
               have k3 : m < ed := by omega
               have k4 : b ≤ ed := by omega
               have b1 : decide ((i : Int) < (m : Int)) = true := decide_eq_true (by omega)
               have b2 : decide ((m : Int) < (ed : Int)) = true := decide_eq_true (by omega)
               have b3 : decide ((a : Int) < (i : Int)) = true := decide_eq_true (by omega)
               have b4 : decide ((i : Int) < (mid : Int)) = true := decide_eq_true (by omega)
               have b5 : decide ((mid : Int) < (ed : Int)) = true := decide_eq_true (by omega)
               have b6 : decide ((ed : Int) < (b : Int)) = false := decide_eq_false (by omega)
               obtain rfl : Y2 = [] := List.eq_nil_of_length_eq_zero (by omega)
               go_wp2_with (first
                 | (go_at_call 50; refine (IH.out P X1 Y1 ((X2 ++ ([] : List Nat)) ++ Q) N a i mid (R3.out.as (by simp)) (by rw [← HN.out, EX.out, EY.out]; (simp <;> omega)) ha (by omega) (by omega) (by omega) (by omega) SX1.out.1 SY1.out.1 (by omega) hl).mono ?_; rintro e w4 ⟨rfl, Z1, hz1, hz2, hR4, hb4⟩; have ZS := Aside0.mk hz1; have ZP := Aside0.mk hz2; have R4 := Aside0.mk hR4; have B4 := Aside0.mk (B3.out.trans hb4); clear hz1 hz2 hR4 hb4; obtain ⟨Z2, hZ2⟩ : ∃ Z2, Z2 = X2 ++ ([] : List Nat) := ⟨_, rfl⟩; have ZS2 := Aside0.mk (show Srt Z2 by rw [hZ2]; (try simp only [List.nil_append, List.append_nil]); exact SX1.out.2.1); have ZP2 := Aside0.mk (show Z2.Perm (X2 ++ ([] : List Nat)) by rw [hZ2]); have R5 := Aside0.mk (R4.out.as (show _ = P ++ Z1 ++ Z2 ++ Q by rw [hZ2]; first | done | simp)); have B5 := Aside0.mk B4.out; clear hZ2)
                 | (go_at_call 51; refine (rot_calls (P ++ X1) X2 Y1 (([] : List Nat) ++ Q) N i m ed _ (RR.out.as (by rw [EX.out, EY.out]; simp)) (by rw [← HN.out, EX.out, EY.out]; simp) (by (simp <;> omega)) (by omega) (by omega) (by omega) (by omega) hl).mono ?_; rintro e w3 ⟨rfl, hR3, hb3⟩; have R3 := Aside0.mk (hR3.as (show _ = P ++ (X1 ++ Y1) ++ (X2 ++ ([] : List Nat)) ++ Q by simp)); have B3 := Aside0.mk (HB.out.trans hb3); clear hR3 hb3))
               go_returns
               have hv := halves_srt (X1 := X1) (X2 := X2) (Y1 := Y1) (Y2 := []) (EX.out ▸ SX.out) (EY.out ▸ SY.out) ZS.out ZP.out ZS2.out ZP2.out T1.out T2.out
               exact ⟨rfl, _, hv.1, by rw [EX.out, EY.out]; exact hv.2, R5.out.as (by simp), B5.out⟩)
          · first
            | (exfalso; omega)
            | (have k1 : a < i := by omega
               have k2 : i < m := by omega
               have k3 : m < ed := by omega
               have k4 : ed < b := by omega
               have b1 : decide ((i : Int) < (m : Int)) = true := decide_eq_true (by omega)
               have b2 : decide ((m : Int) < (ed : Int)) = true := decide_eq_true (by omega)
               have b3 : decide ((a : Int) < (i : Int)) = true := decide_eq_true (by omega)
               have b4 : decide ((i : Int) < (mid : Int)) = true := decide_eq_true (by omega)
               have b5 : decide ((mid : Int) < (ed : Int)) = true := decide_eq_true (by omega)
               have b6 : decide ((ed : Int) < (b : Int)) = true := decide_eq_true (by omega)
               go_wp2_with (first
                 | (go_at_call 50; refine (IH.out (P ++ Z1) X2 Y2 Q N mid ed b (R4.out.as (by simp)) (by rw [← HN.out, EX.out, EY.out]; have h_ := ZP.out.length_eq; (simp at h_ ⊢ <;> omega)) (by have h_ := ZP.out.length_eq; (simp at h_ ⊢ <;> omega)) (by omega) (by omega) (by omega) (by omega) SX1.out.2.1 SY1.out.2.1 (by omega) hl).mono ?_; rintro e w5 ⟨rfl, Z2, hz1, hz2, hR5, hb5⟩; have ZS2 := Aside0.mk hz1; have ZP2 := Aside0.mk hz2; have R5 := Aside0.mk hR5; have B5 := Aside0.mk (B4.out.trans hb5); clear hz1 hz2 hR5 hb5)
                 | (go_at_call 50; refine (IH.out P X1 Y1 ((X2 ++ Y2) ++ Q) N a i mid (R3.out.as (by simp)) (by rw [← HN.out, EX.out, EY.out]; (simp <;> omega)) ha (by omega) (by omega) (by omega) (by omega) SX1.out.1 SY1.out.1 (by omega) hl).mono ?_; rintro e w4 ⟨rfl, Z1, hz1, hz2, hR4, hb4⟩; have ZS := Aside0.mk hz1; have ZP := Aside0.mk hz2; have R4 := Aside0.mk hR4; have B4 := Aside0.mk (B3.out.trans hb4); clear hz1 hz2 hR4 hb4)
                 | (go_at_call 51; refine (rot_calls (P ++ X1) X2 Y1 (Y2 ++ Q) N i m ed _ (RR.out.as (by rw [EX.out, EY.out]; simp)) (by rw [← HN.out, EX.out, EY.out]; simp) (by (simp <;> omega)) (by omega) (by omega) (by omega) (by omega) hl).mono ?_; rintro e w3 ⟨rfl, hR3, hb3⟩; have R3 := Aside0.mk (hR3.as (show _ = P ++ (X1 ++ Y1) ++ (X2 ++ Y2) ++ Q by simp)); have B3 := Aside0.mk (HB.out.trans hb3); clear hR3 hb3))
               go_returns
               have hv := halves_srt (X1 := X1) (X2 := X2) (Y1 := Y1) (Y2 := Y2) (EX.out ▸ SX.out) (EY.out ▸ SY.out) ZS.out ZP.out ZS2.out ZP2.out T1.out T2.out
               exact ⟨rfl, _, hv.1, by rw [EX.out, EY.out]; exact hv.2, R5.out.as (by simp), B5.out⟩)
end Go.Proofs.Ytngncegokmppiaa.Flo
