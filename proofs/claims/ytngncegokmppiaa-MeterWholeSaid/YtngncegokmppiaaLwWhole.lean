/- Means by windows of one; a file of like numbers has no steps. -/
import Derived.Test.YtngncegokmppiaaLwMeans
import Derived.Test.YtngncegokmppiaaFloV
namespace Go.Proofs.Ytngncegokmppiaa.Flo
open Go Go.RowKit Go.Proofs.Ytngncegokmppiaa.Reg Go.Proofs.YtngncegokmppiaaW.PrintWords Go.Proofs.YtngncegokmppiaaW.PrintLast Go.Proofs.YtngncegokmppiaaW.PrintMore
set_option linter.unusedVariables false
set_option linter.unusedSimpArgs false
theorem one_eq : floatOfInt .f64 1 = 4607182418800017408 := by kernel_rfl
def mean1 (x : Nat) : Option Nat := fop .quo (fop .add (some 0) (cv x)) (some 4607182418800017408)
theorem mean1_nan {x : Nat} (h : isN x = true) : mean1 x = none := by
  unfold mean1
  rw [cv_none h]
  rfl
theorem mean1_zero {x : Nat} (h : isN x = false) (h0 : rg x = 0) : mean1 x = some 0 := by
  unfold mean1
  rw [cv_some h]
  show fop .quo (D.add 0 x) _ = _
  rw [add_zero_zero h0]
  exact div_zero_one
theorem mean1_num {x : Nat} (hx : x < 18446744073709551616) (h : isN x = false) (h0 : 0 < rg x) : mean1 x = some x := by
  have hr := h
  rw [isN_rg] at hr
  have hr := of_decide_eq_false hr
  unfold mean1
  rw [cv_some h]
  show fop .quo (D.add 0 x) _ = _
  by_cases hi : rg x < 9218868437227405312
  · rw [add_zero_left x hx h0 hi]
    exact div_one x hx h0 hi
  · rw [add_zero_inf x hx (by omega)]
    exact div_one_inf x hx (by omega)
theorem kk_zero (x : Nat) : kk x = 0 ↔ rg x = 0 := by
  unfold kk sg
  split <;> omega
theorem whole_a {x m : Nat} (hx : x < 18446744073709551616) (hm : cv m = mean1 x) (h : (FloatKind.f64.format.order x 0 != some Ordering.eq) = true) : cv m = cv x := by
  rw [hm]
  cases hn : isN x with
  | true => rw [mean1_nan hn, cv_none hn]
  | false =>
    rw [bne, ord_eq hn isN_0, kk_0] at h
    have h1 : ¬ kk x = 0 := by simpa using h
    rw [kk_zero] at h1
    rw [mean1_num hx hn (by omega), cv_some hn]
theorem whole_b {x m : Nat} (hm : cv m = mean1 x) (h : (FloatKind.f64.format.order x 0 != some Ordering.eq) = false) : (FloatKind.f64.format.order m 0 != some Ordering.eq) = false := by
  cases hn : isN x with
  | true =>
    have h2 := ord_nan hn 0
    unfold ord at h2
    rw [show FloatKind.f64.format.order x 0 = none from h2] at h
    cases h
  | false =>
    rw [bne, ord_eq hn isN_0, kk_0] at h
    have h1 : kk x = 0 := by simpa using h
    rw [kk_zero] at h1
    rw [mean1_zero hn h1] at hm
    have : m = 0 := by
      unfold cv at hm
      split at hm
      · cases hm
      · exact Option.some.inj hm
    rw [this]
    decide
theorem means_one {l rs : List Nat} {n j x m : Nat} (h : rs.map cv = meansC (l.map cv) 1 n) (hj : j < n) (hx : l[j]? = some x) (hm : rs[j]? = some m) : cv m = mean1 x := by
  have h_ := congrArg (fun t => t[j]?) h
  unfold meansC at h_
  simp only [List.getElem?_map, hm, Option.map_some, List.getElem?_range hj] at h_
  rw [Option.some.inj h_]
  unfold meanW mean1
  rw [show j + 1 - (j + 1 - 1) = 1 by omega, show (((1 : Nat) : Int)) = 1 from rfl, one_eq, cv1, show j + 1 - 1 = j by omega]
  have hjl : j < l.length := (List.getElem?_eq_some_iff.1 hx).1
  have e : ((l.map cv).take (j + 1)).drop j = [cv x] := by
    rw [List.take_add_one, List.getElem?_map, hx, Option.map_some, Option.toList_some, List.drop_append_of_le_length (by rw [List.length_take, List.length_map]; omega), List.drop_of_length_le (by rw [List.length_take, List.length_map]; omega), List.nil_append]
  rw [e]
  rfl
theorem steps_like {x n j y : Nat} {rs : List Nat} (h : rs.map cv = stepsC ((List.replicate n x).map cv) (n - 1)) (hj : j < n - 1) (hy : rs[j]? = some y) : cv y = fop .sub (cv x) (cv x) := by
  have h_ := congrArg (fun t => t[j]?) h
  unfold stepsC at h_
  simp only [List.getElem?_map, hy, Option.map_some, List.getElem?_range hj] at h_
  rw [Option.some.inj h_]
  have e : ∀ i, i < n → ((List.replicate n x).map cv).getD i none = cv x := by
    intro i hi
    rw [List.getD_eq_getElem?_getD, List.getElem?_map, List.getElem?_replicate, if_pos hi]
    rfl
  rw [e j (by omega), e (j + 1) (by omega)]
theorem like_zero {x y : Nat} (hn : isN x = false) (hi : ¬ rg x = 9218868437227405312) (h : cv y = fop .sub (cv x) (cv x)) : (FloatKind.f64.format.order y 0 != some Ordering.eq) = false := by
  have hr := hn
  rw [isN_rg] at hr
  have hr := of_decide_eq_false hr
  rw [cv_some hn] at h
  have h2 : fop .sub (some x) (some x) = some 0 := sub_self x (by omega)
  rw [h2] at h
  have : y = 0 := by
    unfold cv at h
    split at h
    · cases h
    · exact Option.some.inj h
  rw [this]
  decide
set_option maxHeartbeats 8000000 in
set_option maxRecDepth 100000 in
theorem MeterWhole_calls (w : World) (A0 : Option Addr) (c0 : Nat) (l : List Nat) (x : Nat) (n0 : Int) (hr : Kd.C kF w A0 l.length l) (hc : l.length ≤ c0) (hwl : ∀ y ∈ l, y < 18446744073709551616) (hwx : x < 18446744073709551616) : Calls Try.prog 7 #[.slice A0 l.length c0, .float .f64 x, .int .i64 n0] w fun e w' => e = .returned (.bool true) ∧ Below w.heap.size w w' := by
  obtain ⟨m, hm⟩ : ∃ m, min l.length 60 = m := ⟨_, rfl⟩
  have hm60 : m ≤ 60 := by omega
  have CT := Aside0.mk (flo_take hr m (by omega))
  have TL := Aside0.mk (show (l.take m).length = m by rw [List.length_take]; omega)
  have WL := Aside0.mk (show ∀ y ∈ l.take m, y < 18446744073709551616 from fun y hy => hwl y (List.mem_of_mem_take hy))
  have HC := Aside0.mk hc
  have HM := Aside0.mk hm
  have MC := Aside0.mk (show m ≤ c0 by omega)
  have WX := Aside0.mk hwx
  clear hr hc hm hwl hwx
  go_enter Try.func7, Try.ntmps7
  go_wp2_with (first
    | (go_at_call 8; refine (lives_calls _).mono ?_; rintro e w1 ⟨rfl, hb⟩; have B1 := Aside0.mk hb; clear hb)
    | (go_at_call 9; refine (early_calls _ A0 l.length c0 HC.out m HM.out).mono ?_; rintro e w2 ⟨rfl, hb⟩; have B2 := Aside0.mk (B1.out.trans (hb.mono B1.out.size)); clear hb)
    | (go_at_call 22; refine (Means_as m (Kd.C_below CT.out B2.out) TL.out MC.out (by omega) 1 1 (by decide)).mono ?_; rintro e w3 ⟨v3, r3, rfl, hR, hmm, hb⟩; have L3 := len_of hmm (meansC_len _ _ _); obtain ⟨A3, c3, ev, _, hC3⟩ := R_any m hR L3; subst ev; have C3 := Aside0.mk hC3; have M3 := Aside0.mk hmm; have B3 := Aside0.mk (B2.out.trans (hb.mono B2.out.size)); clear hR hb hmm hC3 L3))
  have CT3 := Aside0.mk (Kd.C_below CT.out B3.out)
  go_loopw [8] (fun i wr => ∃ (j : Nat), j ≤ m ∧ i = .int .i64 (j : Int) ∧ Below w3.heap.size w3 wr) (fun i _ => m - (intOf i).toNat)
  case atStart => exact ⟨0, Nat.zero_le _, rfl, Below.refl _ _⟩
  case round =>
    obtain ⟨j, hj, rfl, hb⟩ := hrel
    have HB := Aside0.mk hb
    clear hb
    by_cases hlt : j < m
    · obtain ⟨ad, y, hA, hy, hcx⟩ := flo_at CT3.out j hlt
      obtain ⟨bd, z, hB, hz, hcz⟩ := flo_at C3.out j hlt
      have CX := Aside0.mk hcx
      have CZ := Aside0.mk hcz
      have MZ := Aside0.mk (means_one M3.out hlt hy hz)
      have WY := Aside0.mk (WL.out y (List.mem_of_getElem? hy))
      subst hA hB
      clear hy hz hcx hcz
      cases h1 : (FloatKind.f64.format.order y 0 != some Ordering.eq) with
      | true =>
        have h2 : (FloatKind.f64.format.order y 0 == some Ordering.eq) = false := by
          rw [bne] at h1; simpa using h1
        have SS := Aside0.mk (show decide (cv z = cv y) = true from decide_eq_true (whole_a WY.out MZ.out h1))
        go_wp2
        refine wp_region_text (fun W => Below w3.heap.size w3 W) (fun i => [14].contains i) (by kernel_rfl) (by kernel_rfl) (HB.out.trans (Below.refl w3.heap.size _).drew) ?_
        have HI := Aside0.mk (HB.out.trans (Below.refl w3.heap.size wr).drew)
        generalize wr.drew = wd at HI ⊢
        repeat (first
          | ((first | refine S_off (wanted_no (b := true) rfl rfl (by rfl)) HI.out ?_ | refine S_off (wanted_no (b := false) rfl rfl (by rfl)) HI.out ?_); go_frame)
          | ((apply S_val rfl; (first | exact wanted_none rfl | exact wanted_yes rfl rfl (by kernel_rfl)); (intro W hW R hR; have z0 := cell_b hW CX.out; have z1 := cell_b hW CZ.out; go_simp; exact hR)); go_frame)
          | ((refine S_call rfl ?_ ?_ (Same_as _ z y true SS.out) ?_; (first | exact wanted_none rfl | exact wanted_yes rfl rfl (by kernel_rfl)); (focus (first | (go_simp; done) | (go_simp; rfl)))); rintro e wn ⟨rfl, rfl⟩; refine ⟨_, rfl, HI.out, ?_⟩; go_frame))
        apply S_nil
        clear HB
        go_wp2
        go_roundw
        case rel => exact ⟨j + 1, hlt, by go_num, HI.out⟩
        case measure =>
          simp [intOf]
          go_num
      | false =>
        have h2 : (FloatKind.f64.format.order y 0 == some Ordering.eq) = true := by
          rw [bne] at h1; simpa using h1
        have h3 := whole_b MZ.out h1
        go_wp2
        refine wp_region_text (fun W => Below w3.heap.size w3 W) (fun i => [14].contains i) (by kernel_rfl) (by kernel_rfl) (HB.out.trans (Below.refl w3.heap.size _).drew) ?_
        have HI := Aside0.mk (HB.out.trans (Below.refl w3.heap.size wr).drew)
        generalize wr.drew = wd at HI ⊢
        repeat (first
          | ((first | refine S_off (wanted_no (b := true) rfl rfl (by rfl)) HI.out ?_ | refine S_off (wanted_no (b := false) rfl rfl (by rfl)) HI.out ?_); go_frame)
          | ((apply S_val rfl; (first | exact wanted_none rfl | exact wanted_yes rfl rfl (by kernel_rfl)); (intro W hW R hR; have z0 := cell_b hW CX.out; have z1 := cell_b hW CZ.out; go_simp; exact hR)); go_frame))
        apply S_nil
        clear HB
        go_wp2
        go_roundw
        case rel => exact ⟨j + 1, hlt, by go_num, HI.out⟩
        case measure =>
          simp [intOf]
          go_num
    · obtain rfl : j = m := by omega
      have hu0 : 0 ≤ IntKind.u64.wrap n0 := by unfold IntKind.wrap; simp [IntKind.signed, IntKind.bits]; omega
      have hu1 := Int.tmod_nonneg 20 hu0
      have hu2 := Int.tmod_lt_of_pos (IntKind.u64.wrap n0) (show (0 : Int) < 20 by decide)
      obtain ⟨nn, hnn, hnn1, hnn2⟩ : ∃ nn : Nat, wrap64 (1 + wrap64 ((IntKind.u64.wrap n0).tmod 20)) = (nn : Int) ∧ 1 ≤ nn ∧ nn ≤ 20 := by
        refine ⟨(1 + (IntKind.u64.wrap n0).tmod 20).toNat, ?_, by omega, by omega⟩
        unfold wrap64
        omega
      have HB3 := Aside0.mk (B3.out.trans (HB.out.mono B3.out.size))
      clear hu0 hu1 hu2 hj hlt HB
      obtain ⟨wq, hwq⟩ : ∃ wq, wq = wr := ⟨_, rfl⟩
      subst hwq
      go_wp2_with (first
        | ((with_reducible refine gate_dst (N := 67) rfl ?_); rw [hnn]; refine Kd.R_make kF _ 23 rfl (N := 67) rfl 22 _ _ rfl nn rfl rfl Try.underlying22 (.float .f64 0) 8 info_f64 rfl (by decide) (by omega) 0 (ok := fun _ => True) (okp := fun _ => True) rfl (fun _ hk => hk) trivial (by omega) (by omega) (Below.refl _ _) (Nat.le_refl _) ?_; intro v4 w4 hR hb hg hnw; have R4 := Aside0.mk hR; have B4 := Aside0.mk hb; clear hR hb hg hnw))
      obtain ⟨g, cap, ev, hg⟩ := Kd.R_form R4.out (by rw [List.length_replicate]; omega)
      rw [List.length_replicate, show ((nn : Int)).toNat = nn from rfl] at ev
      subst ev
      clear hg hnn
      go_loopw [10] (fun i ws => ∃ (k : Nat) (rs : List Nat), k ≤ nn ∧ i = .int .i64 (k : Int) ∧ rs.length = nn ∧ (∀ q, q < k → rs[q]? = some x) ∧ Kd.R kF 23 ws wq.heap.size (fun _ => True) (.slice (some ⟨g, 0, none⟩) nn cap) rs ∧ Below wq.heap.size wq ws) (fun i _ => nn - (intOf i).toNat)
      case atStart => exact ⟨0, List.replicate nn 0, Nat.zero_le _, rfl, List.length_replicate .., fun q hq => absurd hq (Nat.not_lt_zero q), R4.out, B4.out⟩
      case round =>
        obtain ⟨k, rs, hk, rfl, hlen, hall, hR, hb⟩ := hrel
        have HB := Aside0.mk hb
        have RR := Aside0.mk (show Kd.R kF 23 wr wq.heap.size (fun _ => True) (.slice (some ⟨g, 0, none⟩) rs.length cap) rs by rw [hlen]; exact hR)
        have LN := Aside0.mk hlen
        have AL := Aside0.mk hall
        clear hb hR hlen hall R4
        by_cases hlk : k < nn
        · obtain ⟨hc, hf⟩ := Kd.R_cell 0 RR.out (k : Int) (by omega) (by have := LN.out; omega)
          rw [show ((k : Int)).toNat = k from rfl] at hc hf
          have PU := Aside0.mk (Kd.R_put RR.out (k : Int) x).1
          have hst := store_float
          have BN := Aside0.mk (HB.out.setCell (p := ⟨g, k, none⟩) (Kd.R_base RR.out g rfl) (.float .f64 x))
          go_wp2
          go_roundw
          case rel =>
            refine ⟨k + 1, rs.set k x, hlk, by go_num, by rw [List.length_set]; exact LN.out, fun q hq => ?_, by have h_ := PU.out; rw [LN.out] at h_; exact h_, BN.out⟩
            rw [List.getElem?_set]
            by_cases hqk : k = q
            · rw [if_pos hqk, if_pos (by have := LN.out; omega)]
            · rw [if_neg hqk]
              exact AL.out q (by omega)
          case measure =>
            simp [intOf]
            go_num
        · obtain rfl : k = nn := by omega
          have hrs : rs = List.replicate k x := by
            refine List.ext_getElem? fun q => ?_
            rw [List.getElem?_replicate]
            by_cases hq : q < k
            · rw [if_pos hq]; exact AL.out q hq
            · rw [if_neg hq, List.getElem?_eq_none (by have := LN.out; omega)]
          subst hrs
          have CR := Aside0.mk (show Kd.C kF wr (some ⟨g, 0, none⟩) k (List.replicate k x) by have h_ := (Kd.R_reads' RR.out).2.2; rw [List.length_replicate] at h_; exact h_)
          have CAP := Aside0.mk (show k ≤ cap by have h_ := (Kd.R_reads' RR.out).2.1; rw [List.length_replicate] at h_; exact h_)
          have HW := Aside0.mk (HB3.out.trans (HB.out.mono HB3.out.size))
          clear hk hlk RR AL LN HB
          obtain ⟨wz, hwz⟩ : ∃ wz, wz = wr := ⟨_, rfl⟩
          subst hwz
          go_wp2_with (first
            | (go_at_call 24; refine (Steps_as k CR.out (List.length_replicate ..) CAP.out (by omega)).mono ?_; rintro e w6 ⟨v6, r6, rfl, hR, hmm, hb⟩; have L6 := len_of hmm (stepsC_len _ _); obtain ⟨A6, c6, ev, _, hC6⟩ := R_any (k - 1) hR L6; subst ev; have C6 := Aside0.mk hC6; have M6 := Aside0.mk hmm; have B6 := Aside0.mk (HW.out.trans (hb.mono HW.out.size)); clear hR hb hmm hC6 L6))
          go_loopw [12] (fun i ws => ∃ (q : Nat), q ≤ k - 1 ∧ i = .int .i64 (q : Int) ∧ Below w6.heap.size w6 ws) (fun i _ => (k - 1) - (intOf i).toNat)
          case atStart => exact ⟨0, Nat.zero_le _, rfl, Below.refl _ _⟩
          case round =>
            obtain ⟨q, hq, rfl, hb⟩ := hrel
            have HB := Aside0.mk hb
            clear hb
            have e9 : ((k - 1 : Nat) : Int) = (k : Int) - 1 := by omega
            by_cases hlq : q < k - 1
            · obtain ⟨ad, y, hA, hy, hcx⟩ := flo_at (Kd.C_below C6.out HB.out) q hlq
              have SY := Aside0.mk (steps_like M6.out hlq hy)
              subst hA
              clear hy
              cases hp : decide (rg x = 9218868437227405312) with
              | true =>
                have PP := Aside0.mk hp
                clear hp
                go_wp2_with (go_at_call 28; refine (IsInf_as _ x true PP.out).mono ?_; rintro e w1 ⟨rfl, rfl⟩)
                go_roundw
                case rel => exact ⟨q + 1, hlq, by go_num, HB.out⟩
                case measure =>
                  simp [intOf]
                  go_num
              | false =>
                have PP := Aside0.mk hp
                cases hn : isN x with
                | true =>
                  have h1 : (FloatKind.f64.format.order x x == some Ordering.eq) = false := by
                    have h_ := ord_self x
                    rw [hn] at h_
                    exact h_
                  clear hp hn
                  go_wp2_with (go_at_call 28; refine (IsInf_as _ x false PP.out).mono ?_; rintro e w1 ⟨rfl, rfl⟩)
                  go_roundw
                  case rel => exact ⟨q + 1, hlq, by go_num, HB.out⟩
                  case measure =>
                    simp [intOf]
                    go_num
                | false =>
                  have h1 : (FloatKind.f64.format.order x x == some Ordering.eq) = true := by
                    have h_ := ord_self x
                    rw [hn] at h_
                    exact h_
                  have h3 := like_zero hn (of_decide_eq_false hp) SY.out
                  clear hp hn
                  go_wp2_with (go_at_call 28; refine (IsInf_as _ x false PP.out).mono ?_; rintro e w1 ⟨rfl, rfl⟩)
                  go_roundw
                  case rel => exact ⟨q + 1, hlq, by go_num, HB.out⟩
                  case measure =>
                    simp [intOf]
                    go_num
            · obtain rfl : q = k - 1 := by omega
              clear hq hlq
              go_wp2
              go_ret
              refine ⟨?_, B6.out.trans (HB.out.mono B6.out.size)⟩
              (try rw [e9])
              (try simp)
end Go.Proofs.Ytngncegokmppiaa.Flo
