/- Parts, rows, what lies far out, are what the document says. -/
import Derived.Test.YtngncegokmppiaaFloZZ
namespace Go.Proofs.Ytngncegokmppiaa.Flo
open Go Go.RowKit Go.Proofs.Ytngncegokmppiaa.Reg Go.Proofs.YtngncegokmppiaaW.PrintWords Go.Proofs.YtngncegokmppiaaW.PrintLast Go.Proofs.YtngncegokmppiaaW.PrintMore
set_option linter.unusedVariables false
set_option linter.unusedSimpArgs false
theorem Far_none (w : World) (A : Option Addr) (c times : Nat) : Calls Try.prog 16 #[.slice A 0 c, .float .f64 times] w fun e w' => e = .returned (.slice none 0 0) ∧ Below w.heap.size w w' := by
  go_enter Try.func16, Try.ntmps16
  go_wp2_with (go_at_call 12; refine (Part_none _ _ _ 0 1 2 (.inl rfl)).mono ?_; rintro e w1 ⟨rfl, hb⟩; have B1 := Aside0.mk hb; clear hb)
  go_returns
  exact ⟨rfl, B1.out⟩
theorem FarR_none (w : World) (A : Option Addr) (c times : Nat) : Calls Try.prog 17 #[.slice A 0 c, .float .f64 times] w fun e w' => e = .returned (.slice none 0 0) ∧ Below w.heap.size w w' := by
  go_enter Try.func17, Try.ntmps17
  go_wp2_with (go_at_call 15; refine (PartR_none _ _ _ 0 1 2 (.inl rfl)).mono ?_; rintro e w1 ⟨rfl, hb⟩; have B1 := Aside0.mk hb; clear hb)
  go_returns
  exact ⟨rfl, B1.out⟩
/-- Equal places of two sorted rows of the same numbers: the same number. -/
theorem srt_cv {l Z Y : List Nat} (hw : ∀ x ∈ l, x < 18446744073709551616) (hz : Srt Z) (hzp : Z.Perm l) (hy : Srt Y) (hyp : Y.Perm l) {q x y : Nat} (hx : Z[q]? = some x) (hy' : Y[q]? = some y) : cv x = cv y := by
  have e := srt_uniq hz hy (hzp.trans hyp.symm)
  have h := congrArg (fun t => t[q]?) e
  simp only [List.getElem?_map, hx, hy', Option.map_some] at h
  exact key_cv (hw x (hzp.mem_iff.1 (List.mem_of_getElem? hx))) (hw y (hyp.mem_iff.1 (List.mem_of_getElem? hy'))) (Option.some.inj h)
theorem srt_some (l : List Nat) : ∃ Z, Srt Z ∧ Z.Perm l := by
  induction l with
  | nil => exact ⟨[], srt_nil, List.Perm.refl _⟩
  | cons x t ih =>
    obtain ⟨Z, h1, h2⟩ := ih
    have : ∀ Z : List Nat, Srt Z → ∃ k, (∀ y ∈ Z.take k, key y ≤ key x) ∧ (∀ y ∈ Z.drop k, key x ≤ key y) := by
      intro Z
      induction Z with
      | nil => intro _; exact ⟨0, by simp, by simp⟩
      | cons z t ih =>
        intro hs
        by_cases hz : key x ≤ key z
        · refine ⟨0, by simp, fun y hy => ?_⟩
          rcases List.mem_cons.1 hy with rfl | hy
          · exact hz
          · have := (List.pairwise_cons.1 hs).1 y hy; omega
        · obtain ⟨k, k1, k2⟩ := ih (List.pairwise_cons.1 hs).2
          refine ⟨k + 1, fun y hy => ?_, k2⟩
          rw [List.take_succ_cons] at hy
          rcases List.mem_cons.1 hy with rfl | hy
          · omega
          · exact k1 y hy
    obtain ⟨k, k1, k2⟩ := this Z h1
    have hp := put_srt h1 x k k1 k2
    exact ⟨_, hp.1, hp.2.trans (h2.cons x)⟩
theorem box_cells (w : World) (n d : Int) : (w.alloc (.cells #[.int .i64 n, .int .i64 d] 29)).cell? ⟨w.heap.size, 0, none⟩ = some (.int .i64 n) ∧ (w.alloc (.cells #[.int .i64 n, .int .i64 d] 29)).cell? ⟨w.heap.size, 1, none⟩ = some (.int .i64 d) := by
  have e : (w.alloc (.cells #[.int .i64 n, .int .i64 d] 29)).heap[w.heap.size]? = some (.cells #[.int .i64 n, .int .i64 d] 29 (0, 0)) := by
    show (w.heap.push _)[w.heap.size]? = _
    simp
  unfold World.cell?
  simp only [e]
  exact ⟨rfl, rfl⟩
set_option maxHeartbeats 8000000 in
set_option maxRecDepth 100000 in
theorem MeterParts_calls (w : World) (A0 : Option Addr) (c0 : Nat) (l : List Nat) (n0 d0 : Int) (edge : Nat) (hr : Kd.C kF w A0 l.length l) (hc : l.length ≤ c0) (hwl : ∀ y ∈ l, y < 18446744073709551616) : Calls Try.prog 5 #[.slice A0 l.length c0, .agg #[.int .i64 n0, .int .i64 d0], .float .f64 edge] w fun e w' => e = .returned (.bool true) ∧ Below w.heap.size w w' := by
  obtain ⟨m, hm⟩ : ∃ m, min l.length 60 = m := ⟨_, rfl⟩
  have hm60 : m ≤ 60 := by omega
  have CT := Aside0.mk (flo_take hr m (by omega))
  have TL := Aside0.mk (show (l.take m).length = m by rw [List.length_take]; omega)
  have WL := Aside0.mk (show ∀ y ∈ l.take m, y < 18446744073709551616 from fun y hy => hwl y (List.mem_of_mem_take hy))
  have HC := Aside0.mk hc
  have HM := Aside0.mk hm
  have hbox := box_cells w n0 d0
  have hB0 := (Below.refl w.heap.size w).alloc (Nat.le_refl _) (.cells #[.int .i64 n0, .int .i64 d0] 29)
  have CT := Aside0.mk (Kd.C_below CT.out hB0)
  obtain ⟨W0, hW0⟩ : ∃ W0, w.alloc (.cells #[.int .i64 n0, .int .i64 d0] 29) = W0 := ⟨_, rfl⟩
  rw [hW0] at hbox hB0 CT
  have B0 := Aside0.mk hB0
  have Q0 := Aside0.mk hbox.1
  have Q1 := Aside0.mk hbox.2
  have BR := Aside0.mk (Below.refl W0.heap.size W0)
  clear hr hc hm hwl hbox hB0
  rcases Nat.eq_zero_or_pos m with hm0 | hm0
  · obtain rfl := hm0
    go_enter Try.func5, Try.ntmps5
    go_wp2_with (first
      | (go_at_call 8; refine (lives_calls _).mono ?_; rintro e w1 ⟨rfl, hb⟩; (try rw [hW0] at hb); have B1 := Aside0.mk hb; have x0 := cell_b B1.out Q0.out; have x1 := cell_b B1.out Q1.out; clear hb)
      | (go_at_call 9; refine (early_calls _ A0 l.length c0 HC.out 0 HM.out).mono ?_; rintro e w2 ⟨rfl, hb⟩; have B2 := Aside0.mk (B1.out.trans (hb.mono B1.out.size)); have y0 := cell_b B2.out Q0.out; have y1 := cell_b B2.out Q1.out; clear hb x0 x1)
      | (go_at_call 12; refine (Part_none _ _ _ 0 n0 d0 (.inl rfl)).mono ?_; rintro e w3 ⟨rfl, hb⟩; have B3 := Aside0.mk (B2.out.trans (hb.mono B2.out.size)); have z0 := cell_b B3.out Q0.out; have z1 := cell_b B3.out Q1.out; clear hb y0 y1)
      | (go_at_call 15; refine (PartR_none _ _ _ 0 n0 d0 (.inl rfl)).mono ?_; rintro e w4 ⟨rfl, hb⟩; have B4 := Aside0.mk (B3.out.trans (hb.mono B3.out.size)); clear hb z0 z1)
      | (go_at_call 16; refine (Far_none _ _ _ edge).mono ?_; rintro e w5 ⟨rfl, hb⟩; have B5 := Aside0.mk (B4.out.trans (hb.mono B4.out.size)); clear hb)
      | (go_at_call 17; refine (FarR_none _ _ _ edge).mono ?_; rintro e w6 ⟨rfl, hb⟩; have B6 := Aside0.mk (B5.out.trans (hb.mono B5.out.size)); clear hb))
    go_loopw [13] (fun i wr => i = .int .i64 0 ∧ wr = w6) (fun _ _ => 0)
    case atStart => exact ⟨rfl, rfl⟩
    case round =>
      obtain ⟨rfl, rfl⟩ := hrel
      have BZ := B6
      go_wp2_with (first
        | (go_at_call 19; refine (sameP_calls _ C78.out C8.out).mono ?_; rintro e w9 ⟨rfl, hb⟩; have B9 := Aside0.mk (B8.out.trans (hb.mono B8.out.size)); clear hb)
        | (go_at_call 20; refine (RunsR_calls 0 (Kd.C_below CT.out B7.out) TL.out (by omega) edge).mono ?_; rintro e w8 ⟨v8, rfl, hR, hb⟩; have C78 := Aside0.mk (Kd.C_below C7.out hb); have B8 := Aside0.mk (B7.out.trans (hb.mono B7.out.size)); obtain ⟨A8, c8, ev, _, hC8⟩ := Kd.R_reads hR; subst ev; have C8 := Aside0.mk hC8; clear hb hR hC8)
        | (go_at_call 10; refine (Runs_as 0 (Kd.C_below CT.out BZ.out) TL.out (by omega) edge).mono ?_; rintro e w7 ⟨v7, rfl, hR, hb⟩; have B7 := Aside0.mk (BZ.out.trans (hb.mono BZ.out.size)); obtain ⟨A7, c7, ev, _, hC7⟩ := Kd.R_reads hR; subst ev; have C7 := Aside0.mk hC7; clear hb hR hC7)
        | (go_at_call 18; refine (Same_as _ 0 0 true (by decide)).mono ?_; rintro e wq ⟨rfl, rfl⟩))
      go_ret
      exact ⟨rfl, B0.out.trans (B9.out.mono B0.out.size)⟩
  obtain ⟨Zq, hzq1, hzq2⟩ := srt_some (l.take m)
  obtain ⟨xq, hxq⟩ : ∃ xq, Zq[1 * (m - 1) / 2]? = some xq := ⟨_, List.getElem?_eq_getElem (by have := hzq2.length_eq; have := TL.out; omega)⟩
  have F0 := Aside0.mk (show ∀ x Z, Srt Z → Z.Perm (l.take m) → Z[1 * (m - 1) / 2]? = some x → cv x = cv xq from fun x Z h1 h2 h3 => srt_cv WL.out h1 h2 hzq1 hzq2 h3 hxq)
  clear hzq1 hzq2 hxq
  obtain ⟨fl, hfl⟩ : ∃ fl, (farSt (farB (l.take m) (keyO (fop .mul (cv edge) (cv xq)))) m) = fl := ⟨_, rfl⟩
  have hfn : fl.length ≤ 60 := by
    have := farSt_len (farB (l.take m) (keyO (fop .mul (cv edge) (cv xq)))) m
    rw [hfl] at this
    omega
  have FL := Aside0.mk hfl
  clear hfl
  by_cases hb : m = 0 ∨ d0 < 1 ∨ 1000 < d0 ∨ n0 < 0 ∨ d0 < n0
  · have HB := Aside0.mk hb
    clear hb
    go_enter Try.func5, Try.ntmps5
    go_wp2_with (first
      | (go_at_call 8; refine (lives_calls _).mono ?_; rintro e w1 ⟨rfl, hb⟩; (try rw [hW0] at hb); have B1 := Aside0.mk hb; have x0 := cell_b B1.out Q0.out; have x1 := cell_b B1.out Q1.out; clear hb)
      | (go_at_call 9; refine (early_calls _ A0 l.length c0 HC.out m HM.out).mono ?_; rintro e w2 ⟨rfl, hb⟩; have B2 := Aside0.mk (B1.out.trans (hb.mono B1.out.size)); have y0 := cell_b B2.out Q0.out; have y1 := cell_b B2.out Q1.out; clear hb x0 x1)
      | (go_at_call 12; refine (Part_none _ _ _ m n0 d0 HB.out).mono ?_; rintro e w3 ⟨rfl, hb⟩; have B3 := Aside0.mk (B2.out.trans (hb.mono B2.out.size)); have z0 := cell_b B3.out Q0.out; have z1 := cell_b B3.out Q1.out; clear hb y0 y1)
      | (go_at_call 15; refine (PartR_none _ _ _ m n0 d0 HB.out).mono ?_; rintro e w4 ⟨rfl, hb⟩; have B4 := Aside0.mk (B3.out.trans (hb.mono B3.out.size)); clear hb z0 z1)
      | (go_at_call 16; refine (Far_calls m (Kd.C_below CT.out B4.out) TL.out hm0 hm60 edge _ F0.out _ rfl).mono ?_; rintro e w5 ⟨v5, rfl, hR, hb⟩; rw [FL.out] at hR; have B5 := Aside0.mk (B4.out.trans (hb.mono B4.out.size)); obtain ⟨A5, c5, ev, _, hC5⟩ := Kd.R_reads hR; subst ev; have C5 := Aside0.mk hC5; clear hb hR hC5)
      | (go_at_call 17; refine (FarR_calls m (Kd.C_below CT.out B5.out) TL.out hm0 hm60 edge _ F0.out _ rfl).mono ?_; rintro e w6 ⟨v6, rfl, hR, hb⟩; rw [FL.out] at hR; have C56 := Aside0.mk (Kd.C_below C5.out hb); have B6 := Aside0.mk (B5.out.trans (hb.mono B5.out.size)); obtain ⟨A6, c6, ev, _, hC6⟩ := Kd.R_reads hR; subst ev; have C6 := Aside0.mk hC6; clear hb hR hC6))
    go_loopw [13] (fun i wr => ∃ (j : Nat), j ≤ fl.length ∧ i = .int .i64 (j : Int) ∧ Below w6.heap.size w6 wr) (fun i _ => fl.length - (intOf i).toNat)
    case atStart => exact ⟨0, Nat.zero_le _, rfl, Below.refl _ _⟩
    case round =>
      obtain ⟨j, hj, rfl, hb⟩ := hrel
      have HB1 := Aside0.mk hb
      clear hb
      by_cases hlt : j < fl.length
      · obtain ⟨ad, hA, hx⟩ := Kd.at_int C56.out (j : Int) (by omega) (by omega)
        obtain ⟨bd, hB, hy⟩ := Kd.at_int C6.out (j : Int) (by omega) (by omega)
        rw [show ((j : Int)).toNat = j from rfl] at hx hy
        have X5 := Aside0.mk hx
        have X6 := Aside0.mk hy
        obtain ⟨vv, hvv⟩ : ∃ vv, rd fl (j : Int) = vv := ⟨_, rfl⟩
        rw [hvv] at X5 X6
        subst hA hB
        clear hx hy hvv
        go_wp2
        refine wp_region_text (fun W => Below w6.heap.size w6 W) (fun i => ([] : List Nat).contains i) (by kernel_rfl) (by kernel_rfl) (HB1.out.trans (Below.refl w6.heap.size _).drew) ?_
        have JI := Aside0.mk (HB1.out.trans (Below.refl w6.heap.size wr).drew)
        generalize wr.drew = wd at JI ⊢
        repeat (first
          | ((apply S_val rfl; (first | exact wanted_none rfl | exact wanted_yes rfl rfl (by kernel_rfl)); (intro W hW R hR; have z0 := cell_b hW X5.out; have z1 := cell_b hW X6.out; go_simp; exact hR)); go_frame))
        apply S_nil
        go_wp2
        go_roundw
        case rel => exact ⟨j + 1, hlt, by go_num, JI.out⟩
        case measure =>
          simp [intOf]
          go_num
      · obtain rfl : j = fl.length := by omega
        have BZ := Aside0.mk (B6.out.trans (HB1.out.mono B6.out.size))
        go_wp2_with (first
          | (go_at_call 19; refine (sameP_calls _ C78.out C8.out).mono ?_; rintro e w9 ⟨rfl, hb⟩; have B9 := Aside0.mk (B8.out.trans (hb.mono B8.out.size)); clear hb)
          | (go_at_call 20; refine (RunsR_calls m (Kd.C_below CT.out B7.out) TL.out (by omega) edge).mono ?_; rintro e w8 ⟨v8, rfl, hR, hb⟩; have C78 := Aside0.mk (Kd.C_below C7.out hb); have B8 := Aside0.mk (B7.out.trans (hb.mono B7.out.size)); obtain ⟨A8, c8, ev, _, hC8⟩ := Kd.R_reads hR; subst ev; have C8 := Aside0.mk hC8; clear hb hR hC8)
          | (go_at_call 10; refine (Runs_as m (Kd.C_below CT.out BZ.out) TL.out (by omega) edge).mono ?_; rintro e w7 ⟨v7, rfl, hR, hb⟩; have B7 := Aside0.mk (BZ.out.trans (hb.mono BZ.out.size)); obtain ⟨A7, c7, ev, _, hC7⟩ := Kd.R_reads hR; subst ev; have C7 := Aside0.mk hC7; clear hb hR hC7)
          | (go_at_call 18; refine (Same_as _ 0 0 true (by decide)).mono ?_; rintro e wq ⟨rfl, rfl⟩))
        go_ret
        exact ⟨rfl, B0.out.trans (B9.out.mono B0.out.size)⟩
  · obtain ⟨nu, hnu⟩ : ∃ nu : Nat, (nu : Int) = n0 := ⟨n0.toNat, by omega⟩
    obtain ⟨de, hde⟩ : ∃ de : Nat, (de : Int) = d0 := ⟨d0.toNat, by omega⟩
    have h1 : 1 ≤ de := by omega
    have h2 : de ≤ 1000 := by omega
    have h3 : nu ≤ de := by omega
    have HNU := Aside0.mk hnu
    have HDE := Aside0.mk hde
    clear hb hnu hde
    go_enter Try.func5, Try.ntmps5
    go_wp2_with (first
      | (go_at_call 8; refine (lives_calls _).mono ?_; rintro e w1 ⟨rfl, hb⟩; (try rw [hW0] at hb); have B1 := Aside0.mk hb; have x0 := cell_b B1.out Q0.out; have x1 := cell_b B1.out Q1.out; clear hb)
      | (go_at_call 9; refine (early_calls _ A0 l.length c0 HC.out m HM.out).mono ?_; rintro e w2 ⟨rfl, hb⟩; have B2 := Aside0.mk (B1.out.trans (hb.mono B1.out.size)); have y0 := cell_b B2.out Q0.out; have y1 := cell_b B2.out Q1.out; clear hb x0 x1)
      | (go_at_call 12; refine (Part_as m (Kd.C_below CT.out B2.out) TL.out hm0 hm60 n0 d0 nu de _ HNU.out HDE.out h1 h2 h3 rfl).mono ?_; rintro e w3 ⟨x3, Z3, rfl, z1, z2, z3, hb⟩; have S3 := Aside0.mk z1; have P3 := Aside0.mk z2; have X3 := Aside0.mk z3; have B3 := Aside0.mk (B2.out.trans (hb.mono B2.out.size)); have z0 := cell_b B3.out Q0.out; have z1 := cell_b B3.out Q1.out; clear hb z2 z3 y0 y1)
      | (go_at_call 15; refine (PartR_as m (Kd.C_below CT.out B3.out) TL.out hm0 hm60 n0 d0 nu de _ HNU.out HDE.out h1 h2 h3 rfl).mono ?_; rintro e w4 ⟨x4, Z4, rfl, t1, t2, t3, hb⟩; have XX := Aside0.mk (show decide (cv x3 = cv x4) = true from decide_eq_true (srt_cv WL.out S3.out P3.out t1 t2 X3.out t3)); have B4 := Aside0.mk (B3.out.trans (hb.mono B3.out.size)); clear hb t1 t2 t3 z0 z1)
      | (go_at_call 16; refine (Far_calls m (Kd.C_below CT.out B4.out) TL.out hm0 hm60 edge _ F0.out _ rfl).mono ?_; rintro e w5 ⟨v5, rfl, hR, hb⟩; rw [FL.out] at hR; have B5 := Aside0.mk (B4.out.trans (hb.mono B4.out.size)); obtain ⟨A5, c5, ev, _, hC5⟩ := Kd.R_reads hR; subst ev; have C5 := Aside0.mk hC5; clear hb hR hC5)
      | (go_at_call 17; refine (FarR_calls m (Kd.C_below CT.out B5.out) TL.out hm0 hm60 edge _ F0.out _ rfl).mono ?_; rintro e w6 ⟨v6, rfl, hR, hb⟩; rw [FL.out] at hR; have C56 := Aside0.mk (Kd.C_below C5.out hb); have B6 := Aside0.mk (B5.out.trans (hb.mono B5.out.size)); obtain ⟨A6, c6, ev, _, hC6⟩ := Kd.R_reads hR; subst ev; have C6 := Aside0.mk hC6; clear hb hR hC6))
    go_loopw [13] (fun i wr => ∃ (j : Nat), j ≤ fl.length ∧ i = .int .i64 (j : Int) ∧ Below w6.heap.size w6 wr) (fun i _ => fl.length - (intOf i).toNat)
    case atStart => exact ⟨0, Nat.zero_le _, rfl, Below.refl _ _⟩
    case round =>
      obtain ⟨j, hj, rfl, hb⟩ := hrel
      have HB1 := Aside0.mk hb
      clear hb
      by_cases hlt : j < fl.length
      · obtain ⟨ad, hA, hx⟩ := Kd.at_int C56.out (j : Int) (by omega) (by omega)
        obtain ⟨bd, hB, hy⟩ := Kd.at_int C6.out (j : Int) (by omega) (by omega)
        rw [show ((j : Int)).toNat = j from rfl] at hx hy
        have X5 := Aside0.mk hx
        have X6 := Aside0.mk hy
        obtain ⟨vv, hvv⟩ : ∃ vv, rd fl (j : Int) = vv := ⟨_, rfl⟩
        rw [hvv] at X5 X6
        subst hA hB
        clear hx hy hvv
        go_wp2
        refine wp_region_text (fun W => Below w6.heap.size w6 W) (fun i => ([] : List Nat).contains i) (by kernel_rfl) (by kernel_rfl) (HB1.out.trans (Below.refl w6.heap.size _).drew) ?_
        have JI := Aside0.mk (HB1.out.trans (Below.refl w6.heap.size wr).drew)
        generalize wr.drew = wd at JI ⊢
        repeat (first
          | ((apply S_val rfl; (first | exact wanted_none rfl | exact wanted_yes rfl rfl (by kernel_rfl)); (intro W hW R hR; have z0 := cell_b hW X5.out; have z1 := cell_b hW X6.out; go_simp; exact hR)); go_frame))
        apply S_nil
        go_wp2
        go_roundw
        case rel => exact ⟨j + 1, hlt, by go_num, JI.out⟩
        case measure =>
          simp [intOf]
          go_num
      · obtain rfl : j = fl.length := by omega
        have BZ := Aside0.mk (B6.out.trans (HB1.out.mono B6.out.size))
        go_wp2_with (first
          | (go_at_call 19; refine (sameP_calls _ C78.out C8.out).mono ?_; rintro e w9 ⟨rfl, hb⟩; have B9 := Aside0.mk (B8.out.trans (hb.mono B8.out.size)); clear hb)
          | (go_at_call 20; refine (RunsR_calls m (Kd.C_below CT.out B7.out) TL.out (by omega) edge).mono ?_; rintro e w8 ⟨v8, rfl, hR, hb⟩; have C78 := Aside0.mk (Kd.C_below C7.out hb); have B8 := Aside0.mk (B7.out.trans (hb.mono B7.out.size)); obtain ⟨A8, c8, ev, _, hC8⟩ := Kd.R_reads hR; subst ev; have C8 := Aside0.mk hC8; clear hb hR hC8)
          | (go_at_call 10; refine (Runs_as m (Kd.C_below CT.out BZ.out) TL.out (by omega) edge).mono ?_; rintro e w7 ⟨v7, rfl, hR, hb⟩; have B7 := Aside0.mk (BZ.out.trans (hb.mono BZ.out.size)); obtain ⟨A7, c7, ev, _, hC7⟩ := Kd.R_reads hR; subst ev; have C7 := Aside0.mk hC7; clear hb hR hC7)
          | (go_at_call 18; refine (Same_as _ x3 x4 _ XX.out).mono ?_; rintro e wq ⟨rfl, rfl⟩))
        go_ret
        exact ⟨rfl, B0.out.trans (B9.out.mono B0.out.size)⟩
end Go.Proofs.Ytngncegokmppiaa.Flo
