/- A block or a number that was taken and given back is free again. -/
import Derived.Test.YtpkfdoefpmgfiaaLwAll
import Derived.Test.YtpkfdoefpmgfiaaLwImg
namespace Go.Proofs.Ytpkfdoefpmgfiaa.Sto
open Go Go.RowKit Go.Proofs.Ytpkfdoefpmgfiaa.ML Go.Proofs.Ytpkfdoefpmgfiaa.Mem Go.Proofs.Ytpkfdoefpmgfiaa.Vw Go.Proofs.Ytpkfdoefpmgfiaa.Print Go.Proofs.YtpkfdoefpmgfiaaW.PrintWords Go.Proofs.YtpkfdoefpmgfiaaW.PrintLast Go.Proofs.YtpkfdoefpmgfiaaW.PrintMore
set_option linter.unusedVariables false
set_option linter.unusedSimpArgs false
theorem reads_see (V : VS) (S : MS) (i a : Int) (n : Nat) : (V.see i).reads S a n = V.reads S a n := rfl
theorem first_true (p : Nat → Bool) : ∀ n : Nat, (∀ j, j < n → p j = false) ∨ ∃ m, m < n ∧ p m = true ∧ ∀ j, j < m → p j = false := by
  intro n
  induction n with
  | zero => exact .inl fun j hj => by omega
  | succ n ih =>
    rcases ih with h | ⟨m, h1, h2, h3⟩
    · cases hp : p n with
      | true => exact .inr ⟨n, by omega, hp, h⟩
      | false =>
        refine .inl fun j hj => ?_
        by_cases e : j = n
        · rw [e]; exact hp
        · exact h j (by omega)
    · exact .inr ⟨m, by omega, h2, h3⟩
theorem first_false (p : Nat → Bool) : ∀ n : Nat, (∀ j, 2 ≤ j → j < n → p j = true) ∨ ∃ m, 2 ≤ m ∧ m < n ∧ p m = false ∧ ∀ j, 2 ≤ j → j < m → p j = true := by
  intro n
  induction n with
  | zero => exact .inl fun j h2 hj => by omega
  | succ n ih =>
    rcases ih with h | ⟨m, h0, h1, h2, h3⟩
    · by_cases hn : 2 ≤ n
      · cases hp : p n with
        | false => exact .inr ⟨n, hn, by omega, hp, h⟩
        | true =>
          refine .inl fun j h2 hj => ?_
          by_cases e : j = n
          · rw [e]; exact hp
          · exact h j h2 (by omega)
      · exact .inl fun j h2 hj => by omega
    · exact .inr ⟨m, h0, by omega, h2, h3⟩
theorem free_less {V V' : VS} {S : MS} {b : Nat} (h : ∀ i : Nat, V'.fresh S i = (V.fresh S i && !decide (i = b))) (hb : V.fresh S b = true) : ∀ n, VS.free V' S n + (if b < n then 1 else 0) = VS.free V S n := by
  intro n
  induction n with
  | zero => simp [VS.free]
  | succ n ih =>
    rw [VS.free_succ, VS.free_succ, h]
    by_cases e : n = b
    · subst e
      rw [hb, if_pos (show n < n + 1 by omega)]
      rw [if_neg (show ¬ n < n by omega)] at ih
      simp
      omega
    · have hd : decide (n = b) = false := decide_eq_false e
      rw [hd, Bool.not_false, Bool.and_true]
      by_cases hlt : b < n
      · rw [if_pos hlt] at ih
        rw [if_pos (show b < n + 1 by omega)]
        omega
      · rw [if_neg hlt] at ih
        rw [if_neg (show ¬ b < n + 1 by omega)]
        omega
theorem free_same {V V' : VS} {S : MS} (h : ∀ i : Nat, V'.fresh S i = V.fresh S i) (n : Nat) : VS.free V' S n = VS.free V S n := by
  unfold VS.free
  congr 1
  apply List.filter_congr
  intro b _
  exact h b
theorem Owner_as {w : World} {q : Vp} {f : Fp} {V : VS} {S : MS} (h : IsView w q f V) (hm : IsMem w f S) (b n : Int) (hb : 0 ≤ b ∧ b < 96) (hx : V.read S (200 + b) = n + 1) (h0 : 0 ≤ n ∧ n < 24) :
    Calls Try.prog 17 #[vptr q, .int .i64 b] w fun e w' => e = .returned (.tuple #[.int .i64 n, .int .i64 0]) ∧ Below w.heap.size w w' := by
  have := Owner_ok h hm b (n + 1) hb hx (by omega)
  rw [show n + 1 - 1 = n by omega] at this
  exact this
theorem take_at (V : VS) (S : MS) (b n : Int) (hb : 0 ≤ b ∧ b < 96) : (VS.take V b n).read S (200 + b) = n + 1 := by
  rw [read_take _ _ _ _ _ hb (by omega), if_pos rfl]
theorem drop_at (V : VS) (S : MS) (b : Int) : (V.put (200 + b) 0).read S (200 + b) = 0 := by rw [read_put, if_pos rfl]
theorem back_fresh {S : MS} {b : Nat} (n : Int) (hb : b < 96) (hn : 0 ≤ n) (hf : newV.fresh S b = true) (i : Nat) : ((VS.take newV b n).put (200 + (b : Int)) 0).fresh S i = newV.fresh S i := by
  rw [fresh_drop _ _ _ _ (by omega)]
  by_cases e : (i : Int) = b
  · rw [if_pos e, take_away, e]
    unfold VS.fresh at hf ⊢
    simp only [Bool.and_eq_true] at hf
    rw [hf.1.1.1, hf.1.1.2, hf.1.2]
    simp
  · rw [if_neg e, fresh_take _ _ _ _ _ (by omega) hn]
    have : ((i : Int) == b) = false := by simp; omega
    rw [this]
    simp
theorem back_read {S : MS} {b : Nat} (n : Int) (hb : b < 96) (j : Int) (hj : j < 200) : ((VS.take newV b n).put (200 + (b : Int)) 0).read S j = S.read j := by
  rw [read_put, if_neg (by omega), read_take _ _ _ _ _ (by omega) (by omega), if_neg (by omega)]
  rfl
set_option maxHeartbeats 2000000 in
set_option maxRecDepth 100000 in
theorem StoreBack_calls (w : World) (A0 : Option Addr) (c0 : Nat) (sp : List S60) (n : Int) (hr : Kd.C k60 w A0 sp.length sp) (hc : sp.length ≤ c0) (hs : ∀ x ∈ sp, okw x.f1) :
    Calls Try.prog 5 #[.slice A0 sp.length c0, .int .i64 n] w fun e w' => e = .returned (.bool true) ∧ Below w.heap.size w w' := by
  have HR := Aside0.mk hr
  have HC := Aside0.mk hc
  have HS := Aside0.mk hs
  clear hr hc hs
  go_enter Try.func5, Try.ntmps5
  go_wp2_with (first
    | (go_at_call 7; refine (lives_calls _).mono ?_; rintro e w0 ⟨rfl, hb⟩; have B0 := Aside0.mk hb; have R0 := Aside0.mk (Kd.C_below HR.out hb); clear hb)
    | (go_at_call 9; refine (image_sp _ A0 c0 sp R0.out HC.out HS.out).mono ?_; rintro e w1 ⟨A, cap, l, rfl, hC, hc, hl, hok, hb⟩; have C1 := Aside0.mk hC; have K1 := Aside0.mk hc; have L1 := Aside0.mk hl; have O1 := Aside0.mk hok; have B1 := Aside0.mk (B0.out.trans (hb.mono B0.out.size)); clear hC hc hl hok hb)
    | (go_at_call 8; refine (Load_as 2824 L1.out C1.out K1.out O1.out).mono ?_; rintro e w2 ⟨f, rfl, f1, f2, f3⟩; obtain ⟨S, hSS⟩ : ∃ S, loadS l = S := ⟨_, rfl⟩; rw [hSS] at f1; have M2 := Aside0.mk f1; have SL := Aside0.mk (show S.ws.length = 2824 by rw [← hSS, loadS_len, L1.out]; omega); have B2 := Aside0.mk (B1.out.trans (f3.mono B1.out.size)); clear f1 f2 f3 hSS)
    | (go_at_call 10; refine (New_as M2.out SL.out).mono ?_; rintro e w3 ⟨q, rfl, f1, f2, f3, f4, f5⟩; obtain ⟨F, hF⟩ : ∃ F, ((VS.free newV S 96 : Nat) : Int) = F := ⟨_, rfl⟩; have HF := Aside0.mk hF; have V3 := Aside0.mk f1; have M3 := Aside0.mk f2; have SP := Aside0.mk f3; have QL := Aside0.mk (fun b hb => Nat.le_trans B2.out.size (f4 b hb)); have B3 := Aside0.mk (B2.out.trans (f5.mono B2.out.size)); clear f1 f2 f3 f4 f5 hF)
    | (go_at_call 15; refine (Free_as V3.out M3.out F HF.out).mono ?_; rintro e w4 ⟨rfl, hb⟩; have V4 := Aside0.mk (V3.out.below hb); have M4 := Aside0.mk (M3.out.below hb); have T4 := Aside0.mk (Turn.of_below hb [q.bo, q.bs, q.bm]); clear hb)
    | fail)
  have hFle : 0 ≤ F ∧ F ≤ 96 := by
    have h1 := HF.out
    have h2 := VS.free_le newV S 96
    omega
  clear V3 M3 M2 C1 K1 L1 O1 B0 B1 B2 R0 HR HC HS
  by_cases hn : 0 ≤ n ∧ n < 24
  · rcases first_true (fun j => newV.fresh S j) 96 with hall | ⟨b, hb96, hfb, hno⟩
    · have HA := Aside0.mk hall
      clear hall
      go_wp2_with (go_at_call 13; refine (Take_none V4.out M4.out n hn HA.out).mono ?_; rintro e w5 ⟨rfl, hb⟩; have VV := Aside0.mk (V4.out.below hb); have MM := Aside0.mk (M4.out.below hb); have TT := Aside0.mk (T4.out.trans (Turn.of_below hb _)); clear hb V4 M4 T4)
      obtain ⟨V, hV⟩ : ∃ V, newV = V := ⟨_, rfl⟩
      have HRD := Aside0.mk (show ∀ j : Int, j < 200 → V.read S j = S.read j by rw [← hV]; intro j _; rfl)
      rw [hV] at VV
      clear hV HA HF hFle hn
      rcases first_false (fun j => VS.usedN V S j) 24 with hall | ⟨m, hm2, hm24, hfm, hno⟩
      · have HA := Aside0.mk hall
        clear hall
        go_wp2_with (go_at_call 12; refine (Node_none VV.out MM.out 3 (by omega) HA.out).mono ?_; rintro e w9 ⟨rfl, hb⟩; have T9 := Aside0.mk (TT.out.trans (Turn.of_below hb _)); clear hb)
        go_ret
        exact ⟨rfl, B3.out.trans (T9.out.below B3.out.size (fun x hx => by
          have a := QL.out q.bo (by simp [Vp.list])
          have b := QL.out q.bs (by simp [Vp.list])
          have c := QL.out q.bm (by simp [Vp.list])
          simp at hx
          omega))⟩
      · have HFM := Aside0.mk hfm
        have HNO := Aside0.mk hno
        have HM := Aside0.mk (show 0 ≤ (m : Int) ∧ (m : Int) < 24 by omega)
        obtain ⟨a8, ha8⟩ : ∃ a8, 8 + 8 * (m : Int) = a8 := ⟨_, rfl⟩
        obtain ⟨a9, ha9⟩ : ∃ a9, 9 + 8 * (m : Int) = a9 := ⟨_, rfl⟩
        have q1 : IntKind.i64.wrap (a8 + 1) = a9 := by simp [IntKind.wrap, IntKind.signed, IntKind.bits]; omega
        have hc0 := fun w => pCard_as (m : Int) (by omega) w
        simp only [ha8] at hc0
        have HPC := Aside0.mk hc0
        obtain ⟨x, hx⟩ : ∃ x, S.read a9 = x := ⟨_, rfl⟩
        have HX := Aside0.mk hx
        have HI9 := Aside0.mk (show oki a9 by unfold oki; omega)
        obtain ⟨z, hz⟩ : ∃ z, ((x + 1) % 18446744073709551616 + 1) % 18446744073709551616 = z := ⟨_, rfl⟩
        have q2 : IntKind.u64.wrap (x + 2) = z := by rw [← hz]; simp [IntKind.wrap, IntKind.signed, IntKind.bits]; omega
        have hxo : okw x := by rw [← hx]; exact sread_ok MM.out.ok _
        have HW := Aside0.mk (show (VS.node V S m 3).reads S (8 + 8 * (m : Int)) 8 = cardW 3 1 ((x + 1) % 18446744073709551616) by
          unfold VS.node
          rw [reads_set _ _ _ _ rfl, HRD.out _ (by omega), ha9, hx])
        have HZ := Aside0.mk hz
        have HM2 := Aside0.mk (show 2 ≤ m ∧ m < 24 from ⟨hm2, hm24⟩)
        clear hfm hno hc0 hx ha8 ha9 hz hxo hm2 hm24
        go_wp2_with (first
          | (go_at_call 12; refine (Node_some VV.out MM.out 3 (by omega) m HM2.out HNO.out HFM.out).mono ?_; rintro e w9 ⟨rfl, r1, r2⟩; have V9 := Aside0.mk r1; have M9 := Aside0.mk (SP.out.mem3 MM.out r2); have T9 := Aside0.mk (TT.out.trans r2); clear r1 r2)
          | (go_at_call 19; refine (HPC.out _).mono ?_; rintro e wa ⟨rfl, hb⟩; have Va := Aside0.mk (V9.out.below hb); have Ma := Aside0.mk (M9.out.below hb); have Ta := Aside0.mk (T9.out.trans (Turn.of_below hb _)); clear hb)
          | (go_at_call 20; refine (mRead_as Ma.out _ (by first | exact HI9.out | (rw [q1]; exact HI9.out)) x (by first | exact HX.out | (rw [q1]; exact HX.out))).mono ?_; rintro e wb ⟨rfl, rfl⟩)
          | (go_at_call 21; refine (Release_free Ve.out Me.out (m : Int) HM.out (noneC z) rfl (by rw [reads_see]; exact HN2.out) (fun b hb => (SP.out b hb).2.2.1)).mono ?_; rintro e wf ⟨rfl, r1, r2⟩; have Tf := Aside0.mk (Te.out.trans (r2.mono (L' := [q.bo, q.bs, q.bm]) (fun x hx => .inl (by simp at hx; simp [hx])))); clear r1 r2)
          | (go_at_call 21; refine (Release_ok Va.out Ma.out (m : Int) HM.out (freshC 3 ((x + 1) % 18446744073709551616)) (by show (3 : Int) ≠ 0; omega) (by rw [HW.out]; exact read_fresh 3 _ (by omega)) (fun b hb => (SP.out b hb).2.2.1) z HZ.out).mono ?_; rintro e wb ⟨rfl, r1, r2⟩; have Vb := Aside0.mk r1; have Mb := Aside0.mk (SP.out.mem3 Ma.out r2); have Tb := Aside0.mk (Ta.out.trans r2); have HN2 := Aside0.mk (show ∃ k, cards_Read.f k ((((VS.node V S m 3).see m).set m (cardW 0 0 z)).reads S (8 + 8 * (m : Int)) 8) = some (0, 0, 0, z, -1, -1, -1, -1, -1, -1, 0) by rw [reads_set _ _ _ _ rfl]; exact read_none z); clear r1 r2)
          | (go_at_call 16; refine (Card_as Vb.out Mb.out (m : Int) HM.out (noneC z) 0 HN2.out (fun b hb => (SP.out b hb).2.2.1)).mono ?_; rintro e wc ⟨rfl, r1, r2⟩; have Vc := Aside0.mk r1; have Mc := Aside0.mk (SP.out.mem2 Mb.out r2); have Tc := Aside0.mk (Tb.out.trans (r2.mono (L' := [q.bo, q.bs, q.bm]) (fun x hx => .inl (by simp at hx; simp [hx])))); clear r1 r2)
          | ((with_reducible refine gate_dst (N := 17) rfl ?_); refine box_event ?hg (N := 17) ?hd (cs := zeroCrd.cells.toArray) (t := 44) ?hr ?_; (case hd => rfl); (case hg => rfl); (case hr => first | (go_simp; done) | (go_simp; rfl)); intro g hg wd hbox hb; have Xd := Aside0.mk hbox; have Gd := Aside0.mk (show wc.heap.size ≤ g by rw [hg]; exact Nat.le_refl _); have Vd := Aside0.mk (Vc.out.below hb); have Md := Aside0.mk (Mc.out.below hb); have Td := Aside0.mk (Tc.out.trans (Turn.of_below hb _)); clear hb hbox hg)
          | ((with_reducible refine gate_store (t := 44) (p := 17) rfl ?_); obtain ⟨we', hs, hb6, t6⟩ := store_card Xd.out rfl (noneC z); refine store_event (t := 44) (p := 17) (w1 := we') rfl rfl rfl (pr_store_exec rfl rfl rfl hs) ?_; intro we hwe; rw [← hwe] at t6 hb6; have Ve := Aside0.mk (Vd.out.kept t6 (fun b hb => by have h1 := Vc.out.lts b hb; have h2 := Gd.out; simp; omega)); have Me := Aside0.mk (Md.out.kept t6 (fun b hb => by have h1 := Mc.out.lts b hb; have h2 := Gd.out; simp; omega));
             have Te := Aside0.mk (show Turn [q.bo, q.bs, q.bm] w3 we from ((Td.out.mono (L' := [q.bo, q.bs, q.bm, g]) (fun x hx => .inl (by simp at hx; rcases hx with rfl | rfl | rfl <;> simp))).trans (t6.mono (L' := [q.bo, q.bs, q.bm, g]) (fun x hx => .inl (by simp at hx; simp [hx])))).mono (fun x hx => by have h2 := Gd.out; have h3 := Tc.out.size; simp at hx ⊢; omega)); have x0 : we.cell? ⟨g, 0, none⟩ = some (.int .i64 0) := cell_of hb6 (o := 0) rfl
             have x3 : we.cell? ⟨g, 3, none⟩ = some (.int .u64 z) := cell_of hb6 (o := 3) rfl
             clear hs hb6 t6 hwe))
        go_ret
        exact ⟨rfl, B3.out.trans (Tf.out.below B3.out.size (fun x hx => by
          have a := QL.out q.bo (by simp [Vp.list])
          have b := QL.out q.bs (by simp [Vp.list])
          have c := QL.out q.bm (by simp [Vp.list])
          simp at hx
          omega))⟩

    · have HFB := Aside0.mk hfb
      have HNO0 := Aside0.mk hno
      have HB := Aside0.mk (show 0 ≤ (b : Int) ∧ (b : Int) < 96 by omega)
      have HB9 := Aside0.mk hb96
      have HNN := Aside0.mk hn
      obtain ⟨F1, hF1⟩ : ∃ F1, F - 1 = F1 := ⟨_, rfl⟩
      have qf : IntKind.i64.wrap (F - 1) = F1 := by rw [← hF1]; simp [IntKind.wrap, IntKind.signed, IntKind.bits]; omega
      have h1 := free_less (V := newV) (V' := VS.take newV b n) (S := S) (b := b) (fun i => by
        rw [fresh_take _ _ _ _ _ (by omega) hn.1]
        rw [show ((i : Int) == (b : Int)) = decide (i = b) from by rw [Bool.eq_iff_iff, beq_iff_eq, decide_eq_true_iff]; omega]) hfb 96
      rw [if_pos hb96] at h1
      have HF1 := Aside0.mk (show ((VS.free (VS.take newV b n) S 96 : Nat) : Int) = F1 by have := HF.out; omega)
      have HF2 := Aside0.mk (show ((VS.free ((VS.take newV b n).put (200 + (b : Int)) 0) S 96 : Nat) : Int) = F by
        rw [free_same (back_fresh n hb96 hn.1 hfb) 96]
        exact HF.out)
      have gn : (n + 1 == 0) = false := by simp; omega
      clear hfb hno hF1 h1 hn
      go_wp2_with (first
        | (go_at_call 13; refine (Take_some V4.out M4.out n HNN.out b HB9.out HNO0.out HFB.out).mono ?_; rintro e w5 ⟨rfl, r1, r2⟩; have V5 := Aside0.mk r1; have M5 := Aside0.mk (SP.out.mem1 M4.out r2); have T5 := Aside0.mk (T4.out.trans (r2.mono (L' := [q.bo, q.bs, q.bm]) (fun x hx => .inl (by simp at hx; simp [hx])))); clear r1 r2 V4 M4 T4)
        | (go_at_call 17; refine (Owner_as V5.out M5.out (b : Int) n HB.out (take_at _ _ _ _ HB.out) HNN.out).mono ?_; rintro e w6 ⟨rfl, hb⟩; have V6 := Aside0.mk (V5.out.below hb); have M6 := Aside0.mk (M5.out.below hb); have T6 := Aside0.mk (T5.out.trans (Turn.of_below hb _)); clear hb V5 M5 T5)
        | (go_at_call 15; refine (Free_as V6.out M6.out F1 HF1.out).mono ?_; rintro e w7 ⟨rfl, hb⟩; have V7 := Aside0.mk (V6.out.below hb); have M7 := Aside0.mk (M6.out.below hb); have T7 := Aside0.mk (T6.out.trans (Turn.of_below hb _)); clear hb V6 M6 T6)
        | (go_at_call 18; refine (Drop_ok V7.out M7.out (b : Int) (n + 1) HB.out (take_at _ _ _ _ HB.out) (by have := HNN.out; omega)).mono ?_; rintro e w8 ⟨rfl, r1, r2⟩; have V8 := Aside0.mk r1; have M8 := Aside0.mk (SP.out.mem1 M7.out r2); have T8 := Aside0.mk (T7.out.trans (r2.mono (L' := [q.bo, q.bs, q.bm]) (fun x hx => .inl (by simp at hx; simp [hx])))); clear r1 r2 V7 M7 T7)
        | (go_at_call 15; refine (Free_as V8.out M8.out F HF2.out).mono ?_; rintro e w9 ⟨rfl, hb⟩; have V9 := Aside0.mk (V8.out.below hb); have M9 := Aside0.mk (M8.out.below hb); have T9 := Aside0.mk (T8.out.trans (Turn.of_below hb _)); clear hb V8 M8 T8)
        | (go_at_call 18; refine (Drop_zero V9.out M9.out (b : Int) HB.out (drop_at _ _ _)).mono ?_; rintro e wA ⟨rfl, hb⟩; have VV := Aside0.mk (V9.out.below hb); have MM := Aside0.mk (M9.out.below hb); have TT := Aside0.mk (T9.out.trans (Turn.of_below hb _)); clear hb V9 M9 T9)
        | fail)
      obtain ⟨V, hV⟩ : ∃ V, (VS.take newV b n).put (200 + (b : Int)) 0 = V := ⟨_, rfl⟩
      have HRD := Aside0.mk (show ∀ j : Int, j < 200 → V.read S j = S.read j by rw [← hV]; exact back_read n HB9.out)
      rw [hV] at VV
      clear hV HFB HNO0 HF1 HF2 HF hFle qf gn HNN
      rcases first_false (fun j => VS.usedN V S j) 24 with hall | ⟨m, hm2, hm24, hfm, hno⟩
      · have HA := Aside0.mk hall
        clear hall
        go_wp2_with (go_at_call 12; refine (Node_none VV.out MM.out 3 (by omega) HA.out).mono ?_; rintro e w9 ⟨rfl, hb⟩; have T9 := Aside0.mk (TT.out.trans (Turn.of_below hb _)); clear hb)
        go_ret
        exact ⟨rfl, B3.out.trans (T9.out.below B3.out.size (fun x hx => by
          have a := QL.out q.bo (by simp [Vp.list])
          have b := QL.out q.bs (by simp [Vp.list])
          have c := QL.out q.bm (by simp [Vp.list])
          simp at hx
          omega))⟩
      · have HFM := Aside0.mk hfm
        have HNO := Aside0.mk hno
        have HM := Aside0.mk (show 0 ≤ (m : Int) ∧ (m : Int) < 24 by omega)
        obtain ⟨a8, ha8⟩ : ∃ a8, 8 + 8 * (m : Int) = a8 := ⟨_, rfl⟩
        obtain ⟨a9, ha9⟩ : ∃ a9, 9 + 8 * (m : Int) = a9 := ⟨_, rfl⟩
        have q1 : IntKind.i64.wrap (a8 + 1) = a9 := by simp [IntKind.wrap, IntKind.signed, IntKind.bits]; omega
        have hc0 := fun w => pCard_as (m : Int) (by omega) w
        simp only [ha8] at hc0
        have HPC := Aside0.mk hc0
        obtain ⟨x, hx⟩ : ∃ x, S.read a9 = x := ⟨_, rfl⟩
        have HX := Aside0.mk hx
        have HI9 := Aside0.mk (show oki a9 by unfold oki; omega)
        obtain ⟨z, hz⟩ : ∃ z, ((x + 1) % 18446744073709551616 + 1) % 18446744073709551616 = z := ⟨_, rfl⟩
        have q2 : IntKind.u64.wrap (x + 2) = z := by rw [← hz]; simp [IntKind.wrap, IntKind.signed, IntKind.bits]; omega
        have hxo : okw x := by rw [← hx]; exact sread_ok MM.out.ok _
        have HW := Aside0.mk (show (VS.node V S m 3).reads S (8 + 8 * (m : Int)) 8 = cardW 3 1 ((x + 1) % 18446744073709551616) by
          unfold VS.node
          rw [reads_set _ _ _ _ rfl, HRD.out _ (by omega), ha9, hx])
        have HZ := Aside0.mk hz
        have HM2 := Aside0.mk (show 2 ≤ m ∧ m < 24 from ⟨hm2, hm24⟩)
        clear hfm hno hc0 hx ha8 ha9 hz hxo hm2 hm24
        go_wp2_with (first
          | (go_at_call 12; refine (Node_some VV.out MM.out 3 (by omega) m HM2.out HNO.out HFM.out).mono ?_; rintro e w9 ⟨rfl, r1, r2⟩; have V9 := Aside0.mk r1; have M9 := Aside0.mk (SP.out.mem3 MM.out r2); have T9 := Aside0.mk (TT.out.trans r2); clear r1 r2)
          | (go_at_call 19; refine (HPC.out _).mono ?_; rintro e wa ⟨rfl, hb⟩; have Va := Aside0.mk (V9.out.below hb); have Ma := Aside0.mk (M9.out.below hb); have Ta := Aside0.mk (T9.out.trans (Turn.of_below hb _)); clear hb)
          | (go_at_call 20; refine (mRead_as Ma.out _ (by first | exact HI9.out | (rw [q1]; exact HI9.out)) x (by first | exact HX.out | (rw [q1]; exact HX.out))).mono ?_; rintro e wb ⟨rfl, rfl⟩)
          | (go_at_call 21; refine (Release_free Ve.out Me.out (m : Int) HM.out (noneC z) rfl (by rw [reads_see]; exact HN2.out) (fun b hb => (SP.out b hb).2.2.1)).mono ?_; rintro e wf ⟨rfl, r1, r2⟩; have Tf := Aside0.mk (Te.out.trans (r2.mono (L' := [q.bo, q.bs, q.bm]) (fun x hx => .inl (by simp at hx; simp [hx])))); clear r1 r2)
          | (go_at_call 21; refine (Release_ok Va.out Ma.out (m : Int) HM.out (freshC 3 ((x + 1) % 18446744073709551616)) (by show (3 : Int) ≠ 0; omega) (by rw [HW.out]; exact read_fresh 3 _ (by omega)) (fun b hb => (SP.out b hb).2.2.1) z HZ.out).mono ?_; rintro e wb ⟨rfl, r1, r2⟩; have Vb := Aside0.mk r1; have Mb := Aside0.mk (SP.out.mem3 Ma.out r2); have Tb := Aside0.mk (Ta.out.trans r2); have HN2 := Aside0.mk (show ∃ k, cards_Read.f k ((((VS.node V S m 3).see m).set m (cardW 0 0 z)).reads S (8 + 8 * (m : Int)) 8) = some (0, 0, 0, z, -1, -1, -1, -1, -1, -1, 0) by rw [reads_set _ _ _ _ rfl]; exact read_none z); clear r1 r2)
          | (go_at_call 16; refine (Card_as Vb.out Mb.out (m : Int) HM.out (noneC z) 0 HN2.out (fun b hb => (SP.out b hb).2.2.1)).mono ?_; rintro e wc ⟨rfl, r1, r2⟩; have Vc := Aside0.mk r1; have Mc := Aside0.mk (SP.out.mem2 Mb.out r2); have Tc := Aside0.mk (Tb.out.trans (r2.mono (L' := [q.bo, q.bs, q.bm]) (fun x hx => .inl (by simp at hx; simp [hx])))); clear r1 r2)
          | ((with_reducible refine gate_dst (N := 17) rfl ?_); refine box_event ?hg (N := 17) ?hd (cs := zeroCrd.cells.toArray) (t := 44) ?hr ?_; (case hd => rfl); (case hg => rfl); (case hr => first | (go_simp; done) | (go_simp; rfl)); intro g hg wd hbox hb; have Xd := Aside0.mk hbox; have Gd := Aside0.mk (show wc.heap.size ≤ g by rw [hg]; exact Nat.le_refl _); have Vd := Aside0.mk (Vc.out.below hb); have Md := Aside0.mk (Mc.out.below hb); have Td := Aside0.mk (Tc.out.trans (Turn.of_below hb _)); clear hb hbox hg)
          | ((with_reducible refine gate_store (t := 44) (p := 17) rfl ?_); obtain ⟨we', hs, hb6, t6⟩ := store_card Xd.out rfl (noneC z); refine store_event (t := 44) (p := 17) (w1 := we') rfl rfl rfl (pr_store_exec rfl rfl rfl hs) ?_; intro we hwe; rw [← hwe] at t6 hb6; have Ve := Aside0.mk (Vd.out.kept t6 (fun b hb => by have h1 := Vc.out.lts b hb; have h2 := Gd.out; simp; omega)); have Me := Aside0.mk (Md.out.kept t6 (fun b hb => by have h1 := Mc.out.lts b hb; have h2 := Gd.out; simp; omega));
             have Te := Aside0.mk (show Turn [q.bo, q.bs, q.bm] w3 we from ((Td.out.mono (L' := [q.bo, q.bs, q.bm, g]) (fun x hx => .inl (by simp at hx; rcases hx with rfl | rfl | rfl <;> simp))).trans (t6.mono (L' := [q.bo, q.bs, q.bm, g]) (fun x hx => .inl (by simp at hx; simp [hx])))).mono (fun x hx => by have h2 := Gd.out; have h3 := Tc.out.size; simp at hx ⊢; omega)); have x0 : we.cell? ⟨g, 0, none⟩ = some (.int .i64 0) := cell_of hb6 (o := 0) rfl
             have x3 : we.cell? ⟨g, 3, none⟩ = some (.int .u64 z) := cell_of hb6 (o := 3) rfl
             clear hs hb6 t6 hwe))
        go_ret
        exact ⟨rfl, B3.out.trans (Tf.out.below B3.out.size (fun x hx => by
          have a := QL.out q.bo (by simp [Vp.list])
          have b := QL.out q.bs (by simp [Vp.list])
          have c := QL.out q.bm (by simp [Vp.list])
          simp at hx
          omega))⟩

  · go_wp2_with (go_at_call 13; refine (Take_arg n hn).mono ?_; rintro e w5 ⟨rfl, hb⟩; have VV := Aside0.mk (V4.out.below hb); have MM := Aside0.mk (M4.out.below hb); have TT := Aside0.mk (T4.out.trans (Turn.of_below hb _)); clear hb V4 M4 T4)
    obtain ⟨V, hV⟩ : ∃ V, newV = V := ⟨_, rfl⟩
    have HRD := Aside0.mk (show ∀ j : Int, j < 200 → V.read S j = S.read j by rw [← hV]; intro j _; rfl)
    rw [hV] at VV
    clear hV HF hFle hn
    rcases first_false (fun j => VS.usedN V S j) 24 with hall | ⟨m, hm2, hm24, hfm, hno⟩
    · have HA := Aside0.mk hall
      clear hall
      go_wp2_with (go_at_call 12; refine (Node_none VV.out MM.out 3 (by omega) HA.out).mono ?_; rintro e w9 ⟨rfl, hb⟩; have T9 := Aside0.mk (TT.out.trans (Turn.of_below hb _)); clear hb)
      go_ret
      exact ⟨rfl, B3.out.trans (T9.out.below B3.out.size (fun x hx => by
        have a := QL.out q.bo (by simp [Vp.list])
        have b := QL.out q.bs (by simp [Vp.list])
        have c := QL.out q.bm (by simp [Vp.list])
        simp at hx
        omega))⟩
    · have HFM := Aside0.mk hfm
      have HNO := Aside0.mk hno
      have HM := Aside0.mk (show 0 ≤ (m : Int) ∧ (m : Int) < 24 by omega)
      obtain ⟨a8, ha8⟩ : ∃ a8, 8 + 8 * (m : Int) = a8 := ⟨_, rfl⟩
      obtain ⟨a9, ha9⟩ : ∃ a9, 9 + 8 * (m : Int) = a9 := ⟨_, rfl⟩
      have q1 : IntKind.i64.wrap (a8 + 1) = a9 := by simp [IntKind.wrap, IntKind.signed, IntKind.bits]; omega
      have hc0 := fun w => pCard_as (m : Int) (by omega) w
      simp only [ha8] at hc0
      have HPC := Aside0.mk hc0
      obtain ⟨x, hx⟩ : ∃ x, S.read a9 = x := ⟨_, rfl⟩
      have HX := Aside0.mk hx
      have HI9 := Aside0.mk (show oki a9 by unfold oki; omega)
      obtain ⟨z, hz⟩ : ∃ z, ((x + 1) % 18446744073709551616 + 1) % 18446744073709551616 = z := ⟨_, rfl⟩
      have q2 : IntKind.u64.wrap (x + 2) = z := by rw [← hz]; simp [IntKind.wrap, IntKind.signed, IntKind.bits]; omega
      have hxo : okw x := by rw [← hx]; exact sread_ok MM.out.ok _
      have HW := Aside0.mk (show (VS.node V S m 3).reads S (8 + 8 * (m : Int)) 8 = cardW 3 1 ((x + 1) % 18446744073709551616) by
        unfold VS.node
        rw [reads_set _ _ _ _ rfl, HRD.out _ (by omega), ha9, hx])
      have HZ := Aside0.mk hz
      have HM2 := Aside0.mk (show 2 ≤ m ∧ m < 24 from ⟨hm2, hm24⟩)
      clear hfm hno hc0 hx ha8 ha9 hz hxo hm2 hm24
      go_wp2_with (first
        | (go_at_call 12; refine (Node_some VV.out MM.out 3 (by omega) m HM2.out HNO.out HFM.out).mono ?_; rintro e w9 ⟨rfl, r1, r2⟩; have V9 := Aside0.mk r1; have M9 := Aside0.mk (SP.out.mem3 MM.out r2); have T9 := Aside0.mk (TT.out.trans r2); clear r1 r2)
        | (go_at_call 19; refine (HPC.out _).mono ?_; rintro e wa ⟨rfl, hb⟩; have Va := Aside0.mk (V9.out.below hb); have Ma := Aside0.mk (M9.out.below hb); have Ta := Aside0.mk (T9.out.trans (Turn.of_below hb _)); clear hb)
        | (go_at_call 20; refine (mRead_as Ma.out _ (by first | exact HI9.out | (rw [q1]; exact HI9.out)) x (by first | exact HX.out | (rw [q1]; exact HX.out))).mono ?_; rintro e wb ⟨rfl, rfl⟩)
        | (go_at_call 21; refine (Release_free Ve.out Me.out (m : Int) HM.out (noneC z) rfl (by rw [reads_see]; exact HN2.out) (fun b hb => (SP.out b hb).2.2.1)).mono ?_; rintro e wf ⟨rfl, r1, r2⟩; have Tf := Aside0.mk (Te.out.trans (r2.mono (L' := [q.bo, q.bs, q.bm]) (fun x hx => .inl (by simp at hx; simp [hx])))); clear r1 r2)
        | (go_at_call 21; refine (Release_ok Va.out Ma.out (m : Int) HM.out (freshC 3 ((x + 1) % 18446744073709551616)) (by show (3 : Int) ≠ 0; omega) (by rw [HW.out]; exact read_fresh 3 _ (by omega)) (fun b hb => (SP.out b hb).2.2.1) z HZ.out).mono ?_; rintro e wb ⟨rfl, r1, r2⟩; have Vb := Aside0.mk r1; have Mb := Aside0.mk (SP.out.mem3 Ma.out r2); have Tb := Aside0.mk (Ta.out.trans r2); have HN2 := Aside0.mk (show ∃ k, cards_Read.f k ((((VS.node V S m 3).see m).set m (cardW 0 0 z)).reads S (8 + 8 * (m : Int)) 8) = some (0, 0, 0, z, -1, -1, -1, -1, -1, -1, 0) by rw [reads_set _ _ _ _ rfl]; exact read_none z); clear r1 r2)
        | (go_at_call 16; refine (Card_as Vb.out Mb.out (m : Int) HM.out (noneC z) 0 HN2.out (fun b hb => (SP.out b hb).2.2.1)).mono ?_; rintro e wc ⟨rfl, r1, r2⟩; have Vc := Aside0.mk r1; have Mc := Aside0.mk (SP.out.mem2 Mb.out r2); have Tc := Aside0.mk (Tb.out.trans (r2.mono (L' := [q.bo, q.bs, q.bm]) (fun x hx => .inl (by simp at hx; simp [hx])))); clear r1 r2)
        | ((with_reducible refine gate_dst (N := 17) rfl ?_); refine box_event ?hg (N := 17) ?hd (cs := zeroCrd.cells.toArray) (t := 44) ?hr ?_; (case hd => rfl); (case hg => rfl); (case hr => first | (go_simp; done) | (go_simp; rfl)); intro g hg wd hbox hb; have Xd := Aside0.mk hbox; have Gd := Aside0.mk (show wc.heap.size ≤ g by rw [hg]; exact Nat.le_refl _); have Vd := Aside0.mk (Vc.out.below hb); have Md := Aside0.mk (Mc.out.below hb); have Td := Aside0.mk (Tc.out.trans (Turn.of_below hb _)); clear hb hbox hg)
        | ((with_reducible refine gate_store (t := 44) (p := 17) rfl ?_); obtain ⟨we', hs, hb6, t6⟩ := store_card Xd.out rfl (noneC z); refine store_event (t := 44) (p := 17) (w1 := we') rfl rfl rfl (pr_store_exec rfl rfl rfl hs) ?_; intro we hwe; rw [← hwe] at t6 hb6; have Ve := Aside0.mk (Vd.out.kept t6 (fun b hb => by have h1 := Vc.out.lts b hb; have h2 := Gd.out; simp; omega)); have Me := Aside0.mk (Md.out.kept t6 (fun b hb => by have h1 := Mc.out.lts b hb; have h2 := Gd.out; simp; omega));
           have Te := Aside0.mk (show Turn [q.bo, q.bs, q.bm] w3 we from ((Td.out.mono (L' := [q.bo, q.bs, q.bm, g]) (fun x hx => .inl (by simp at hx; rcases hx with rfl | rfl | rfl <;> simp))).trans (t6.mono (L' := [q.bo, q.bs, q.bm, g]) (fun x hx => .inl (by simp at hx; simp [hx])))).mono (fun x hx => by have h2 := Gd.out; have h3 := Tc.out.size; simp at hx ⊢; omega)); have x0 : we.cell? ⟨g, 0, none⟩ = some (.int .i64 0) := cell_of hb6 (o := 0) rfl
           have x3 : we.cell? ⟨g, 3, none⟩ = some (.int .u64 z) := cell_of hb6 (o := 3) rfl
           clear hs hb6 t6 hwe))
      go_ret
      exact ⟨rfl, B3.out.trans (Tf.out.below B3.out.size (fun x hx => by
        have a := QL.out q.bo (by simp [Vp.list])
        have b := QL.out q.bs (by simp [Vp.list])
        have c := QL.out q.bm (by simp [Vp.list])
        simp at hx
        omega))⟩

end Go.Proofs.Ytpkfdoefpmgfiaa.Sto
