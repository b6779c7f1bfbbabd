/- The document's sums and means; the same lists. -/
import Derived.Test.YtngncegokmppiaaFloM
namespace Go.Proofs.Ytngncegokmppiaa.Flo
open Go Go.RowKit Go.Proofs.Ytngncegokmppiaa.Reg Go.Proofs.YtngncegokmppiaaW.PrintWords Go.Proofs.YtngncegokmppiaaW.PrintLast Go.Proofs.YtngncegokmppiaaW.PrintMore
set_option linter.unusedVariables false
set_option linter.unusedSimpArgs false
set_option maxHeartbeats 1000000 in
theorem SumR_calls {w : World} {A : Option Addr} {c : Nat} {l : List Nat} (hr : Kd.C kF w A l.length l) (hl : l.length ≤ 4096) : Calls Try.prog 46 #[.slice A l.length c] w fun e w' => ∃ r : Nat, e = .returned (.float .f64 r) ∧ cv r = sumC (l.map cv) ∧ Below w.heap.size w w' := by
  have HR := Aside0.mk hr
  clear hr
  go_enter Try.func46, Try.ntmps46
  go_wp2
  go_loopw [3, 4] (fun s i wr => ∃ (j : Nat) (r : Nat), j ≤ l.length ∧ i = .int .i64 (j : Int) ∧ s = .float .f64 r ∧ cv r = sumC ((l.take j).map cv) ∧ Below w.heap.size w wr) (fun _ i _ => l.length - (intOf i).toNat)
  case atStart => exact ⟨0, 0, Nat.zero_le _, rfl, rfl, cv0, Below.refl _ _⟩
  case round =>
    obtain ⟨j, r, hj, rfl, rfl, hc, hb⟩ := hrel
    have HC := Aside0.mk hc
    have HB := Aside0.mk hb
    clear hc hb
    by_cases hlt : j < l.length
    · obtain ⟨ad, x, hA, hx, hcell⟩ := flo_at (Kd.C_below HR.out HB.out) j hlt
      have HX := Aside0.mk hx
      subst hA
      clear hx hj
      go_wp2_with (first
        | ((with_reducible refine gate_dst (N := 16) rfl ?_); refine fop_event rfl (N := 16) rfl rfl (.inl rfl) rfl rfl ?_; intro r2 w2 hcv hb2 hw2; have C2 := Aside0.mk hcv; have B2 := Aside0.mk (HB.out.trans (hb2.mono HB.out.size)); clear hcv hb2 hw2))
      go_roundw
      case rel => exact ⟨j + 1, r2, hlt, by go_num, rfl, by rw [C2.out, HC.out, List.take_add_one, HX.out, Option.toList_some, List.map_append, List.map_cons, List.map_nil, sumC_snoc], B2.out⟩
      case measure =>
        simp [intOf]
        go_num
    · obtain rfl : j = l.length := by omega
      clear hj
      go_wp2
      go_ret
      exact ⟨r, rfl, by rw [HC.out, List.take_length], HB.out⟩
set_option maxHeartbeats 1000000 in
theorem MeanR_as {w : World} {A : Option Addr} {c : Nat} {l : List Nat} (n : Nat) (hr : Kd.C kF w A n l) (hn : l.length = n) (hl : n ≤ 4096) (h0 : 0 < n) : Calls Try.prog 39 #[.slice A n c] w fun e w' => ∃ r : Nat, e = .returned (.float .f64 r) ∧ cv r = fop .quo (sumC (l.map cv)) (cv (floatOfInt .f64 n)) ∧ Below w.heap.size w w' := by
  subst hn
  have HR := Aside0.mk hr
  have hne : ((l.length : Int) = 0) = False := eq_false (by omega)
  clear hr
  go_enter Try.func39, Try.ntmps39
  go_wp2_with (first
    | (go_at_call 46; refine (SumR_calls HR.out hl).mono ?_; rintro e w1 ⟨s, rfl, hs, hb⟩; have S1 := Aside0.mk hs; have B1 := Aside0.mk hb; clear hs hb)
    | ((with_reducible refine gate_dst (N := 12) rfl ?_); refine fop_event rfl (N := 12) rfl rfl (.inr (.inr (.inr rfl))) rfl rfl ?_; intro r2 w2 hcv hb2 hw2; have C2 := Aside0.mk hcv; have B2 := Aside0.mk (B1.out.trans (hb2.mono B1.out.size)); clear hcv hb2 hw2))
  go_ret
  exact ⟨r2, rfl, by rw [C2.out, S1.out], B2.out⟩
set_option maxHeartbeats 2000000 in
set_option maxRecDepth 100000 in
theorem MeansR_calls {w : World} {A : Option Addr} {c : Nat} {l : List Nat} (hr : Kd.C kF w A l.length l) (hc : l.length ≤ c) (hl : l.length ≤ 4096) (wide : Int) (wd : Nat) (hw : min (max wide 1) 1000 = (wd : Int)) : Calls Try.prog 23 #[.slice A l.length c, .int .i64 wide] w fun e w' => ∃ (v : Value) (rs : List Nat), e = .returned v ∧ Kd.R kF 23 w' w.heap.size (fun _ => True) v rs ∧ rs.map cv = meansC (l.map cv) wd l.length ∧ Below w.heap.size w w' := by
  have HR := Aside0.mk hr
  have HC := Aside0.mk hc
  have h1 : 1 ≤ wd ∧ wd ≤ 1000 := by omega
  clear hr
  go_enter Try.func23, Try.ntmps23
  go_wp2
  clear hw
  go_loopw [5, 6] (fun v i wr => ∃ (j : Nat) (v' : Value) (rs : List Nat), v' = v ∧ j ≤ l.length ∧ i = .int .i64 (j : Int) ∧ Kd.R kF 23 wr w.heap.size (fun _ => True) v' rs ∧ rs.map cv = meansC (l.map cv) wd j ∧ Below w.heap.size w wr) (fun _ i _ => l.length - (intOf i).toNat)
  case atStart => exact ⟨0, _, [], rfl, Nat.zero_le _, rfl, Kd.R_nil _ _ _ _ _, rfl, Below.refl _ _⟩
  case round =>
    obtain ⟨j, v', rs, rfl, hj, rfl, hR, hm, hb⟩ := hrel
    have RR := Aside0.mk hR
    have MM := Aside0.mk hm
    have HB := Aside0.mk hb
    clear hR hm hb
    by_cases hlt : j < l.length
    · obtain ⟨ad, hA, hsub⟩ := flo_sub (Kd.C_below HR.out HB.out) (j + 1 - wd) (j + 1) (by omega) (by omega)
      have SUB := Aside0.mk hsub
      subst hA
      have e1 : max ((j : Int) + 1 - (wd : Int)) 0 = ((j + 1 - wd : Nat) : Int) := by omega
      have e2 : j + 1 - wd ≤ j + 1 := by omega
      have e3 : j + 1 ≤ c := by omega
      clear hsub hj
      go_wp2_with (first
        | (go_at_call 39; refine (MeanR_as (j + 1 - (j + 1 - wd)) SUB.out (by rw [List.length_drop, List.length_take]; omega) (by omega) (by omega)).mono ?_; rintro e w2 ⟨r, rfl, hcv, hb⟩; have C2 := Aside0.mk hcv; have B2 := Aside0.mk (HB.out.trans (hb.mono HB.out.size)); have R2 := Aside0.mk (Kd.R_below RR.out hb); clear hcv hb)
        | ((with_reducible refine gate_dst (N := 28) rfl ?_); refine Kd.R_append kF (w0 := w) w.heap.size rfl (.tmp 16) (.tmp 27) 22 23 (.float .f64 0) 8 rfl Try.underlying22 info_f64 rfl (by decide) (by omega) v' rs r [.float .f64 r] (fun _ => True) (fun _ => False) rfl rfl rfl (fun _ hk => hk.elim) (fun _ _ => trivial) R2.out B2.out B2.out.size (by have h_ := congrArg List.length MM.out; rw [List.length_map, meansC_len] at h_; omega) ?_; intro v3 w3 hO hb3 hg3 hn3; have R3 := Aside0.mk hO; have B3 := Aside0.mk hb3; clear hO hb3 hg3 hn3))
      go_roundw
      case rel =>
        refine ⟨j + 1, v3, rs ++ [r], rfl, hlt, by go_num, R3.out, ?_, B3.out⟩
        rw [List.map_append, MM.out, meansC_succ, List.map_cons, List.map_nil, C2.out]
        unfold meanW
        rw [List.map_drop, List.map_take]
      case measure =>
        simp [intOf]
        go_num
    · obtain rfl : j = l.length := by omega
      clear hj
      go_wp2
      go_ret
      exact ⟨_, rs, rfl, RR.out, MM.out, HB.out⟩
theorem MeansR_as {w : World} {A : Option Addr} {c : Nat} {l : List Nat} (n : Nat) (hr : Kd.C kF w A n l) (hn : l.length = n) (hc : n ≤ c) (hl : n ≤ 4096) (wide : Int) (wd : Nat) (hw : min (max wide 1) 1000 = (wd : Int)) : Calls Try.prog 23 #[.slice A n c, .int .i64 wide] w fun e w' => ∃ (v : Value) (rs : List Nat), e = .returned v ∧ Kd.R kF 23 w' w.heap.size (fun _ => True) v rs ∧ rs.map cv = meansC (l.map cv) wd n ∧ Below w.heap.size w w' := by
  subst hn
  exact MeansR_calls hr hc hl wide wd hw
set_option maxHeartbeats 2000000 in
set_option maxRecDepth 100000 in
theorem SameL_calls {w : World} {A B : Option Addr} {c d : Nat} {l k : List Nat} (n : Nat) (hl : Kd.C kF w A n l) (hk : Kd.C kF w B n k) (he : l.map cv = k.map cv) : Calls Try.prog 21 #[.slice A n c, .slice B n d] w fun e w' => e = .returned (.bool true) ∧ Below w.heap.size w w' := by
  have HL := Aside0.mk hl
  have HK := Aside0.mk hk
  have HE := Aside0.mk he
  have hn63 := hl.2.1
  clear hl hk he
  go_enter Try.func21, Try.ntmps21
  go_wp2
  go_loopw [5] (fun i wr => ∃ (j : Nat), j ≤ n ∧ i = .int .i64 (j : Int) ∧ Below w.heap.size w wr) (fun i _ => n - (intOf i).toNat)
  case atStart => exact ⟨0, Nat.zero_le _, rfl, Below.refl _ _⟩
  case round =>
    obtain ⟨j, hj, rfl, hb⟩ := hrel
    have HB := Aside0.mk hb
    clear hb
    by_cases hlt : j < n
    · obtain ⟨ad, x, hA, hx, hcx⟩ := flo_at HL.out j hlt
      obtain ⟨bd, y, hB, hy, hcy⟩ := flo_at HK.out j hlt
      have CX := Aside0.mk (cell_b HB.out hcx)
      have CY := Aside0.mk (cell_b HB.out hcy)
      have EE := Aside0.mk (show decide (cv x = cv y) = true from decide_eq_true (by
        have h_ := congrArg (fun t => t[j]?) HE.out
        simp only [List.getElem?_map, hx, hy, Option.map_some] at h_
        exact Option.some.inj h_))
      subst hA hB
      clear hx hy hcx hcy
      go_wp2
      refine wp_region_text (fun W => Below wr.heap.size wr W) (fun i => [8].contains i) (by kernel_rfl) (by kernel_rfl) ((Below.refl wr.heap.size _).drew) ?_
      have HI := Aside0.mk ((Below.refl wr.heap.size wr).drew)
      have HD := Aside0.mk (HB.out.trans ((Below.refl w.heap.size wr).drew))
      generalize wr.drew = wd at HI HD ⊢
      repeat (first
        | ((apply S_val rfl; (first | exact wanted_none rfl | exact wanted_yes rfl rfl (by kernel_rfl)); (intro W hW R hR; have z0 := cell_b hW CX.out; have z1 := cell_b hW CY.out; go_simp; exact hR)); go_frame)
        | ((refine S_call rfl ?_ ?_ (Same_as _ x y true EE.out) ?_; (first | exact wanted_none rfl | exact wanted_yes rfl rfl (by kernel_rfl)); (focus (first | (go_simp; done) | (go_simp; rfl)))); rintro e wn ⟨rfl, rfl⟩; refine ⟨_, rfl, HI.out, ?_⟩; go_frame))
      apply S_nil
      clear HB
      go_wp2
      go_roundw
      case rel => exact ⟨j + 1, hlt, by go_num, HD.out⟩
      case measure =>
        simp [intOf]
        go_num
    · have hj' : j = n := by omega
      subst hj'
      go_wp2
      go_ret
      exact ⟨rfl, HB.out⟩
end Go.Proofs.Ytngncegokmppiaa.Flo
