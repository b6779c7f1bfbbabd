/- FloM, FloN, FloQ, FloU in one text. -/
import Derived.Test.YtngncegokmppiaaRegB
namespace Go.Proofs.Ytngncegokmppiaa.Flo
open Go Go.RowKit Go.Proofs.Ytngncegokmppiaa.Reg Go.Proofs.YtngncegokmppiaaW.PrintWords Go.Proofs.YtngncegokmppiaaW.PrintLast Go.Proofs.YtngncegokmppiaaW.PrintMore
set_option linter.unusedVariables false
set_option linter.unusedSimpArgs false
theorem None_calls (w : World) (x : Nat) : Calls Try.prog 35 #[.float .f64 x] w fun e w' => e = .returned (.bool (isN x)) ∧ w = w' := by
  have h := ord_self x
  go_enter Try.func35, Try.ntmps35
  go_wp2
  go_ret
  refine ⟨?_, rfl⟩
  show Ending.returned (.bool (FloatKind.f64.format.order x x != some Ordering.eq)) = _
  have e : (FloatKind.f64.format.order x x != some Ordering.eq) = isN x := by
    show (!(ord x x == some .eq)) = isN x
    rw [h, Bool.not_not]
  rw [e]
theorem None_as (w : World) (x : Nat) (b : Bool) (h : isN x = b) : Calls Try.prog 35 #[.float .f64 x] w fun e w' => e = .returned (.bool b) ∧ w = w' := by
  rw [← h]
  exact None_calls w x
theorem same_cv (x y : Nat) : decide (cv x = cv y) = (((x : Int) == y) || (isN x && isN y)) := by
  rw [Bool.eq_iff_iff, decide_eq_true_iff, Bool.or_eq_true, Bool.and_eq_true, beq_iff_eq]
  constructor
  · intro h
    cases hx : isN x <;> cases hy : isN y
    · rw [cv_some hx, cv_some hy] at h
      left
      rw [Option.some.inj h]
    · rw [cv_some hx, cv_none hy] at h; cases h
    · rw [cv_none hx, cv_some hy] at h; cases h
    · exact .inr ⟨rfl, rfl⟩
  · rintro (h | ⟨hx, hy⟩)
    · rw [show x = y by omega]
    · rw [cv_none hx, cv_none hy]
set_option maxHeartbeats 1000000 in
theorem Same_calls (w : World) (x y : Nat) : Calls Try.prog 18 #[.float .f64 x, .float .f64 y] w fun e w' => e = .returned (.bool (decide (cv x = cv y))) ∧ w = w' := by
  rw [same_cv]
  have hb := bits_run
  obtain ⟨b, eb⟩ : ∃ b, ((x : Int) == y) = b := ⟨_, rfl⟩
  obtain ⟨p, hp⟩ : ∃ p, isN x = p := ⟨_, rfl⟩
  obtain ⟨q, hq⟩ : ∃ q, isN y = q := ⟨_, rfl⟩
  have HP := Aside0.mk hp
  have HQ := Aside0.mk hq
  rw [hp, hq, eb]
  clear hp hq
  cases b <;> cases p <;> (
    go_enter Try.func18, Try.ntmps18
    go_wp2_with (first
      | (go_at_call 35; refine (None_as _ x _ HP.out).mono ?_; rintro e w1 ⟨rfl, rfl⟩)
      | (go_at_call 35; refine (None_as _ y _ HQ.out).mono ?_; rintro e w1 ⟨rfl, rfl⟩))
    go_ret
    refine ⟨?_, rfl⟩
    (try simp))
theorem Same_as (w : World) (x y : Nat) (b : Bool) (h : decide (cv x = cv y) = b) : Calls Try.prog 18 #[.float .f64 x, .float .f64 y] w fun e w' => e = .returned (.bool b) ∧ w = w' := by
  rw [← h]
  exact Same_calls w x y
end Go.Proofs.Ytngncegokmppiaa.Flo
namespace Go.Proofs.Ytngncegokmppiaa.Flo
open Go Go.RowKit Go.Proofs.Ytngncegokmppiaa.Reg Go.Proofs.YtngncegokmppiaaW.PrintWords Go.Proofs.YtngncegokmppiaaW.PrintLast Go.Proofs.YtngncegokmppiaaW.PrintMore
set_option linter.unusedVariables false
set_option linter.unusedSimpArgs false
set_option maxHeartbeats 1000000 in
theorem SumR_calls {w : World} {A : Option Addr} {c : Nat} {l : List Nat} (hr : Kd.C kF w A l.length l) (hl : l.length ≤ 4096) : Calls Try.prog 46 #[.slice A l.length c] w fun e w' => ∃ r : Nat, e = .returned (.float .f64 r) ∧ cv r = sumC (l.map cv) ∧ Below w.heap.size w w' := by
  have HR := Aside0.mk hr
  clear hr
  go_enter Try.func46, Try.ntmps46
  go_wp2
  go_loopw [3, 4] (fun s i wr => ∃ (j : Nat) (r : Nat), j ≤ l.length ∧ i = .int .i64 (j : Int) ∧ s = .float .f64 r ∧ cv r = sumC ((l.take j).map cv) ∧ Below w.heap.size w wr) (fun _ i _ => l.length - (intOf i).toNat)
  case atStart => exact ⟨0, 0, Nat.zero_le _, rfl, rfl, cv0, Below.refl _ _⟩
  case round =>
    obtain ⟨j, r, hj, rfl, rfl, hc, hb⟩ := hrel
    have HC := Aside0.mk hc
    have HB := Aside0.mk hb
    clear hc hb
    by_cases hlt : j < l.length
    · obtain ⟨ad, x, hA, hx, hcell⟩ := flo_at (Kd.C_below HR.out HB.out) j hlt
      have HX := Aside0.mk hx
      subst hA
      clear hx hj
      go_wp2_with (first
        | ((with_reducible refine gate_dst (N := 16) rfl ?_); refine fop_event rfl (N := 16) rfl rfl (.inl rfl) rfl rfl ?_; intro r2 w2 hcv hb2 hw2; have C2 := Aside0.mk hcv; have B2 := Aside0.mk (HB.out.trans (hb2.mono HB.out.size)); clear hcv hb2 hw2))
      go_roundw
      case rel => exact ⟨j + 1, r2, hlt, by go_num, rfl, by rw [C2.out, HC.out, List.take_add_one, HX.out, Option.toList_some, List.map_append, List.map_cons, List.map_nil, sumC_snoc], B2.out⟩
      case measure =>
        simp [intOf]
        go_num
    · obtain rfl : j = l.length := by omega
      clear hj
      go_wp2
      go_ret
      exact ⟨r, rfl, by rw [HC.out, List.take_length], HB.out⟩
set_option maxHeartbeats 1000000 in
theorem MeanR_as {w : World} {A : Option Addr} {c : Nat} {l : List Nat} (n : Nat) (hr : Kd.C kF w A n l) (hn : l.length = n) (hl : n ≤ 4096) (h0 : 0 < n) : Calls Try.prog 39 #[.slice A n c] w fun e w' => ∃ r : Nat, e = .returned (.float .f64 r) ∧ cv r = fop .quo (sumC (l.map cv)) (cv (floatOfInt .f64 n)) ∧ Below w.heap.size w w' := by
  subst hn
  have HR := Aside0.mk hr
  have hne : ((l.length : Int) = 0) = False := eq_false (by omega)
  clear hr
  go_enter Try.func39, Try.ntmps39
  go_wp2_with (first
    | (go_at_call 46; refine (SumR_calls HR.out hl).mono ?_; rintro e w1 ⟨s, rfl, hs, hb⟩; have S1 := Aside0.mk hs; have B1 := Aside0.mk hb; clear hs hb)
    | ((with_reducible refine gate_dst (N := 12) rfl ?_); refine fop_event rfl (N := 12) rfl rfl (.inr (.inr (.inr rfl))) rfl rfl ?_; intro r2 w2 hcv hb2 hw2; have C2 := Aside0.mk hcv; have B2 := Aside0.mk (B1.out.trans (hb2.mono B1.out.size)); clear hcv hb2 hw2))
  go_ret
  exact ⟨r2, rfl, by rw [C2.out, S1.out], B2.out⟩
set_option maxHeartbeats 2000000 in
set_option maxRecDepth 100000 in
theorem MeansR_calls {w : World} {A : Option Addr} {c : Nat} {l : List Nat} (hr : Kd.C kF w A l.length l) (hc : l.length ≤ c) (hl : l.length ≤ 4096) (wide : Int) (wd : Nat) (hw : min (max wide 1) 1000 = (wd : Int)) : Calls Try.prog 23 #[.slice A l.length c, .int .i64 wide] w fun e w' => ∃ (v : Value) (rs : List Nat), e = .returned v ∧ Kd.R kF 23 w' w.heap.size (fun _ => True) v rs ∧ rs.map cv = meansC (l.map cv) wd l.length ∧ Below w.heap.size w w' := by
  have HR := Aside0.mk hr
  have HC := Aside0.mk hc
  have h1 : 1 ≤ wd ∧ wd ≤ 1000 := by omega
  clear hr
  go_enter Try.func23, Try.ntmps23
  go_wp2
  clear hw
  go_loopw [5, 6] (fun v i wr => ∃ (j : Nat) (v' : Value) (rs : List Nat), v' = v ∧ j ≤ l.length ∧ i = .int .i64 (j : Int) ∧ Kd.R kF 23 wr w.heap.size (fun _ => True) v' rs ∧ rs.map cv = meansC (l.map cv) wd j ∧ Below w.heap.size w wr) (fun _ i _ => l.length - (intOf i).toNat)
  case atStart => exact ⟨0, _, [], rfl, Nat.zero_le _, rfl, Kd.R_nil _ _ _ _ _, rfl, Below.refl _ _⟩
  case round =>
    obtain ⟨j, v', rs, rfl, hj, rfl, hR, hm, hb⟩ := hrel
    have RR := Aside0.mk hR
    have MM := Aside0.mk hm
    have HB := Aside0.mk hb
    clear hR hm hb
    by_cases hlt : j < l.length
    · obtain ⟨ad, hA, hsub⟩ := flo_sub (Kd.C_below HR.out HB.out) (j + 1 - wd) (j + 1) (by omega) (by omega)
      have SUB := Aside0.mk hsub
      subst hA
      have e1 : max ((j : Int) + 1 - (wd : Int)) 0 = ((j + 1 - wd : Nat) : Int) := by omega
      have e2 : j + 1 - wd ≤ j + 1 := by omega
      have e3 : j + 1 ≤ c := by omega
      clear hsub hj
      go_wp2_with (first
        | (go_at_call 39; refine (MeanR_as (j + 1 - (j + 1 - wd)) SUB.out (by rw [List.length_drop, List.length_take]; omega) (by omega) (by omega)).mono ?_; rintro e w2 ⟨r, rfl, hcv, hb⟩; have C2 := Aside0.mk hcv; have B2 := Aside0.mk (HB.out.trans (hb.mono HB.out.size)); have R2 := Aside0.mk (Kd.R_below RR.out hb); clear hcv hb)
        | ((with_reducible refine gate_dst (N := 28) rfl ?_); refine Kd.R_append kF (w0 := w) w.heap.size rfl (.tmp 16) (.tmp 27) 22 23 (.float .f64 0) 8 rfl Try.underlying22 info_f64 rfl (by decide) (by omega) v' rs r [.float .f64 r] (fun _ => True) (fun _ => False) rfl rfl rfl (fun _ hk => hk.elim) (fun _ _ => trivial) R2.out B2.out B2.out.size (by have h_ := congrArg List.length MM.out; rw [List.length_map, meansC_len] at h_; omega) ?_; intro v3 w3 hO hb3 hg3 hn3; have R3 := Aside0.mk hO; have B3 := Aside0.mk hb3; clear hO hb3 hg3 hn3))
      go_roundw
      case rel =>
        refine ⟨j + 1, v3, rs ++ [r], rfl, hlt, by go_num, R3.out, ?_, B3.out⟩
        rw [List.map_append, MM.out, meansC_succ, List.map_cons, List.map_nil, C2.out]
        unfold meanW
        rw [List.map_drop, List.map_take]
      case measure =>
        simp [intOf]
        go_num
    · obtain rfl : j = l.length := by omega
      clear hj
      go_wp2
      go_ret
      exact ⟨_, rs, rfl, RR.out, MM.out, HB.out⟩
theorem MeansR_as {w : World} {A : Option Addr} {c : Nat} {l : List Nat} (n : Nat) (hr : Kd.C kF w A n l) (hn : l.length = n) (hc : n ≤ c) (hl : n ≤ 4096) (wide : Int) (wd : Nat) (hw : min (max wide 1) 1000 = (wd : Int)) : Calls Try.prog 23 #[.slice A n c, .int .i64 wide] w fun e w' => ∃ (v : Value) (rs : List Nat), e = .returned v ∧ Kd.R kF 23 w' w.heap.size (fun _ => True) v rs ∧ rs.map cv = meansC (l.map cv) wd n ∧ Below w.heap.size w w' := by
  subst hn
  exact MeansR_calls hr hc hl wide wd hw
set_option maxHeartbeats 2000000 in
set_option maxRecDepth 100000 in
theorem SameL_calls {w : World} {A B : Option Addr} {c d : Nat} {l k : List Nat} (n : Nat) (hl : Kd.C kF w A n l) (hk : Kd.C kF w B n k) (he : l.map cv = k.map cv) : Calls Try.prog 21 #[.slice A n c, .slice B n d] w fun e w' => e = .returned (.bool true) ∧ Below w.heap.size w w' := by
  have HL := Aside0.mk hl
  have HK := Aside0.mk hk
  have HE := Aside0.mk he
  have hn63 := hl.2.1
  clear hl hk he
  go_enter Try.func21, Try.ntmps21
  go_wp2
  go_loopw [5] (fun i wr => ∃ (j : Nat), j ≤ n ∧ i = .int .i64 (j : Int) ∧ Below w.heap.size w wr) (fun i _ => n - (intOf i).toNat)
  case atStart => exact ⟨0, Nat.zero_le _, rfl, Below.refl _ _⟩
  case round =>
    obtain ⟨j, hj, rfl, hb⟩ := hrel
    have HB := Aside0.mk hb
    clear hb
    by_cases hlt : j < n
    · obtain ⟨ad, x, hA, hx, hcx⟩ := flo_at HL.out j hlt
      obtain ⟨bd, y, hB, hy, hcy⟩ := flo_at HK.out j hlt
      have CX := Aside0.mk (cell_b HB.out hcx)
      have CY := Aside0.mk (cell_b HB.out hcy)
      have EE := Aside0.mk (show decide (cv x = cv y) = true from decide_eq_true (by
        have h_ := congrArg (fun t => t[j]?) HE.out
        simp only [List.getElem?_map, hx, hy, Option.map_some] at h_
        exact Option.some.inj h_))
      subst hA hB
      clear hx hy hcx hcy
      go_wp2
      refine wp_region_text (fun W => Below wr.heap.size wr W) (fun i => [8].contains i) (by kernel_rfl) (by kernel_rfl) ((Below.refl wr.heap.size _).drew) ?_
      have HI := Aside0.mk ((Below.refl wr.heap.size wr).drew)
      have HD := Aside0.mk (HB.out.trans ((Below.refl w.heap.size wr).drew))
      generalize wr.drew = wd at HI HD ⊢
      repeat (first
        | ((apply S_val rfl; (first | exact wanted_none rfl | exact wanted_yes rfl rfl (by kernel_rfl)); (intro W hW R hR; have z0 := cell_b hW CX.out; have z1 := cell_b hW CY.out; go_simp; exact hR)); go_frame)
        | ((refine S_call rfl ?_ ?_ (Same_as _ x y true EE.out) ?_; (first | exact wanted_none rfl | exact wanted_yes rfl rfl (by kernel_rfl)); (focus (first | (go_simp; done) | (go_simp; rfl)))); rintro e wn ⟨rfl, rfl⟩; refine ⟨_, rfl, HI.out, ?_⟩; go_frame))
      apply S_nil
      clear HB
      go_wp2
      go_roundw
      case rel => exact ⟨j + 1, hlt, by go_num, HD.out⟩
      case measure =>
        simp [intOf]
        go_num
    · have hj' : j = n := by omega
      subst hj'
      go_wp2
      go_ret
      exact ⟨rfl, HB.out⟩
end Go.Proofs.Ytngncegokmppiaa.Flo
namespace Go.Proofs.Ytngncegokmppiaa.Flo
open Go Go.RowKit Go.Proofs.Ytngncegokmppiaa.Reg Go.Proofs.YtngncegokmppiaaW.PrintWords Go.Proofs.YtngncegokmppiaaW.PrintLast Go.Proofs.YtngncegokmppiaaW.PrintMore
set_option linter.unusedVariables false
set_option linter.unusedSimpArgs false
/-- The steps of the first n + 1 numbers. -/
def stepsC (cs : List (Option Nat)) (n : Nat) : List (Option Nat) := (List.range n).map fun i => fop .sub (cs.getD (i + 1) none) (cs.getD i none)
theorem stepsC_succ (cs : List (Option Nat)) (n : Nat) : stepsC cs (n + 1) = stepsC cs n ++ [fop .sub (cs.getD (n + 1) none) (cs.getD n none)] := by
  unfold stepsC
  rw [List.range_succ, List.map_append]
  rfl
theorem stepsC_len (cs : List (Option Nat)) (n : Nat) : (stepsC cs n).length = n := by simp [stepsC]
theorem map_at {l : List Nat} {j x : Nat} (h : l[j]? = some x) : (l.map cv).getD j none = cv x := by
  rw [List.getD_eq_getElem?_getD, List.getElem?_map, h]
  rfl
theorem add_succ (ad : Addr) (k : Nat) : ad.add (k + 1) = { block := ad.block, off := ad.off + (k + 1) } := by simp [Addr.add]
set_option maxHeartbeats 2000000 in
set_option maxRecDepth 100000 in
theorem StepsR_as {w : World} {A : Option Addr} {c : Nat} {l : List Nat} (n : Nat) (hr : Kd.C kF w A n l) (hn : l.length = n) (hc : n ≤ c) (hl : n ≤ 4096) : Calls Try.prog 25 #[.slice A n c] w fun e w' => ∃ (v : Value) (rs : List Nat), e = .returned v ∧ Kd.R kF 23 w' w.heap.size (fun _ => True) v rs ∧ rs.map cv = stepsC (l.map cv) (n - 1) ∧ Below w.heap.size w w' := by
  have HR := Aside0.mk hr
  have HN := Aside0.mk hn
  clear hr hn
  go_enter Try.func25, Try.ntmps25
  go_wp2
  go_loopw [3, 4] (fun v i wr => ∃ (j : Nat) (v' : Value) (rs : List Nat), v' = v ∧ (j ≤ n ∨ j = 1) ∧ 1 ≤ j ∧ i = .int .i64 (j : Int) ∧ Kd.R kF 23 wr w.heap.size (fun _ => True) v' rs ∧ rs.map cv = stepsC (l.map cv) (j - 1) ∧ Below w.heap.size w wr) (fun _ i _ => n - (intOf i).toNat)
  case atStart => exact ⟨1, _, [], rfl, .inr rfl, Nat.le_refl _, rfl, Kd.R_nil _ _ _ _ _, rfl, Below.refl _ _⟩
  case round =>
    obtain ⟨j, v', rs, rfl, hj, hj1, rfl, hR, hm, hb⟩ := hrel
    have RR := Aside0.mk hR
    have MM := Aside0.mk hm
    have HB := Aside0.mk hb
    clear hR hm hb
    by_cases hlt : j < n
    · obtain ⟨k, rfl⟩ : ∃ k, j = k + 1 := ⟨j - 1, by omega⟩
      obtain ⟨ad, x, hA, hx, hcx⟩ := flo_at HR.out (k + 1) hlt
      obtain ⟨bd, y, hB, hy, hcy⟩ := flo_at HR.out k (by omega)
      subst hA
      obtain rfl := Option.some.inj hB
      rw [add_succ] at hcx
      have CX := Aside0.mk hcx
      have CY := Aside0.mk hcy
      have FX := Aside0.mk (map_at hx)
      have FY := Aside0.mk (map_at hy)
      have e1 : ((k : Int) + 1).toNat = k + 1 := by omega
      have e2 : ((k + 1 : Nat) : Int) = (k : Int) + 1 := by omega
      have e3 : (k : Int) + 1 - 1 = (k : Int) := by omega
      have hk1 : (k : Int) + 1 < n := by omega
      have hk2 : (k : Int) < n := by omega
      have hwk : IntKind.i64.wrap (k : Int) = (k : Int) := IntWalk.i64_in _ (by omega)
      clear hx hy hcx hcy hj hj1
      rw [e2]
      go_wp2
      refine wp_region_text (fun W => Below w.heap.size w W) (fun i => [10, 11, 12].contains i) (by kernel_rfl) (by kernel_rfl) (HB.out.trans ((Below.refl w.heap.size _).drew)) ?_
      have HI := Aside0.mk (HB.out.trans ((Below.refl w.heap.size wr).drew))
      have RD := Aside0.mk (Kd.R_below RR.out ((Below.refl wr.heap.size wr).drew))
      generalize wr.drew = wd at HI RD ⊢
      repeat (first
        | ((apply S_val rfl; (first | exact wanted_none rfl | exact wanted_yes rfl rfl (by kernel_rfl)); (intro W hW R hR; have z0 := cell_b hW CX.out; have z1 := cell_b hW CY.out; go_simp; exact hR)); go_frame)
        | ((refine S_list rfl ?_ ?_; (first | exact wanted_none rfl | exact wanted_yes rfl rfl (by kernel_rfl))); refine fop_event rfl (N := 21) rfl rfl (.inr (.inl rfl)) rfl rfl ?_; intro r2 w2 hcv hb2 hw2; have C2 := Aside0.mk hcv; have J2 := Aside0.mk (HI.out.trans (hb2.mono HI.out.size)); have R2 := Aside0.mk (Kd.R_below RD.out hb2); clear hcv hb2 hw2; refine L_end J2.out ?_; go_frame)
        | ((refine S_make (v := .slice (some ⟨w2.heap.size, 0, none⟩) 1 1) (w' := w2.alloc (.cells #[.float .f64 r2] 23)) rfl ?_ ?_ (J2.out.alloc J2.out.size _) ?_; (first | exact wanted_none rfl | exact wanted_yes rfl rfl (by kernel_rfl)); (focus (first | (go_simp; done) | (go_simp; rfl)))); go_frame)
        | ((refine S_list rfl ?_ ?_; (first | exact wanted_none rfl | exact wanted_yes rfl rfl (by kernel_rfl))); refine Kd.R_append kF (w0 := w) w.heap.size rfl (.tmp 11) (.tmp 22) 22 23 (.float .f64 0) 8 rfl Try.underlying22 info_f64 rfl (by decide) (by omega) v' rs r2 [.float .f64 r2] (fun _ => True) (fun _ => False) rfl rfl rfl (fun _ hk => hk.elim) (fun _ _ => trivial) R2.out J2.out J2.out.size (by have h_ := congrArg List.length MM.out; rw [List.length_map, stepsC_len] at h_; omega) ?_; intro v3 w3 hO hb3 hg3 hn3; have R3 := Aside0.mk hO; have B3 := Aside0.mk hb3; clear hO hb3 hg3 hn3; refine L_end B3.out ?_; go_frame))
      apply S_nil
      go_wp2
      go_roundw
      case rel =>
        refine ⟨k + 2, v3, rs ++ [r2], rfl, .inl hlt, by omega, by go_num, R3.out, ?_, B3.out⟩
        rw [List.map_append, MM.out, List.map_cons, List.map_nil, show k + 2 - 1 = k + 1 by omega, show k + 1 - 1 = k by omega, stepsC_succ, C2.out, FX.out, FY.out]
      case measure =>
        simp [intOf]
        go_num
    · have hje : j - 1 = n - 1 := by omega
      have hji : ((j : Int) < n) = False := eq_false (by omega)
      clear hj
      go_wp2
      go_ret
      exact ⟨_, rs, rfl, RR.out, by rw [MM.out, hje], HB.out⟩
set_option maxHeartbeats 2000000 in
set_option maxRecDepth 100000 in
theorem Steps_as {w : World} {A : Option Addr} {c : Nat} {l : List Nat} (n : Nat) (hr : Kd.C kF w A n l) (hn : l.length = n) (hc : n ≤ c) (hl : n ≤ 4096) : Calls Try.prog 24 #[.slice A n c] w fun e w' => ∃ (v : Value) (rs : List Nat), e = .returned v ∧ Kd.R kF 23 w' w.heap.size (fun _ => True) v rs ∧ rs.map cv = stepsC (l.map cv) (n - 1) ∧ Below w.heap.size w w' := by
  have HR := Aside0.mk hr
  have HN := Aside0.mk hn
  clear hr hn
  go_enter Try.func24, Try.ntmps24
  go_wp2
  go_loopw [3, 8] (fun v i wr => ∃ (j : Nat) (v' : Value) (rs : List Nat), v' = v ∧ j ≤ n ∧ i = .int .i64 (j : Int) ∧ Kd.R kF 23 wr w.heap.size (fun _ => True) v' rs ∧ rs.map cv = stepsC (l.map cv) (j - 1) ∧ Below w.heap.size w wr) (fun _ i _ => n - (intOf i).toNat)
  case atStart => exact ⟨0, _, [], rfl, Nat.zero_le _, rfl, Kd.R_nil _ _ _ _ _, rfl, Below.refl _ _⟩
  case round =>
    obtain ⟨j, v', rs, rfl, hj, rfl, hR, hm, hb⟩ := hrel
    have RR := Aside0.mk hR
    have MM := Aside0.mk hm
    have HB := Aside0.mk hb
    clear hR hm hb
    by_cases hlt : j < n
    · rcases Nat.eq_zero_or_pos j with h0 | h0
      · subst h0
        obtain ⟨ad, x, hA, hx, hcx⟩ := flo_at (Kd.C_below HR.out HB.out) 0 hlt
        subst hA
        rw [show ad.add 0 = ad from rfl] at hcx
        clear hx
        go_wp2
        go_roundw
        case rel =>
          refine ⟨1, v', rs, rfl, hlt, by go_num, RR.out, MM.out, HB.out⟩
        case measure =>
          simp [intOf]
          go_num
      · obtain ⟨k, rfl⟩ : ∃ k, j = k + 1 := ⟨j - 1, by omega⟩
        obtain ⟨ad, x, hA, hx, hcx⟩ := flo_at (Kd.C_below HR.out HB.out) (k + 1) hlt
        obtain ⟨bd, y, hB, hy, hcy⟩ := flo_at (Kd.C_below HR.out HB.out) k (by omega)
        subst hA
        obtain rfl := Option.some.inj hB
        rw [add_succ] at hcx
        have FX := Aside0.mk (map_at hx)
        have FY := Aside0.mk (map_at hy)
        have e1 : ((k : Int) + 1).toNat = k + 1 := by omega
        have e2 : ((k + 1 : Nat) : Int) = (k : Int) + 1 := by omega
        have e3 : (k : Int) + 1 - 1 = (k : Int) := by omega
        have e4 : (0 : Int) < (k : Int) + 1 := by omega
        have hk1 : (k : Int) + 1 < n := by omega
        have hk2 : (k : Int) < n := by omega
        have hwk : IntKind.i64.wrap (k : Int) = (k : Int) := IntWalk.i64_in _ (by omega)
        clear hx hy hj h0
        rw [e2]
        go_wp2_with (first
          | ((with_reducible refine gate_dst (N := 22) rfl ?_); refine fop_event rfl (N := 22) rfl rfl (.inr (.inl rfl)) rfl rfl ?_; intro r2 w2 hcv hb2 hw2; have C2 := Aside0.mk hcv; have B2 := Aside0.mk (HB.out.trans (hb2.mono HB.out.size)); have R2 := Aside0.mk (Kd.R_below RR.out hb2); clear hcv hb2 hw2)
          | ((with_reducible refine gate_dst (N := 24) rfl ?_); refine Kd.R_append kF (w0 := w) w.heap.size rfl (.tmp 15) (.tmp 23) 22 23 (.float .f64 0) 8 rfl Try.underlying22 info_f64 rfl (by decide) (by omega) v' rs r2 [.float .f64 r2] (fun _ => True) (fun _ => False) rfl rfl rfl (fun _ hk => hk.elim) (fun _ _ => trivial) R2.out B2.out B2.out.size (by have h_ := congrArg List.length MM.out; rw [List.length_map, stepsC_len] at h_; omega) ?_; intro v3 w3 hO hb3 hg3 hn3; have R3 := Aside0.mk hO; have B3 := Aside0.mk hb3; clear hO hb3 hg3 hn3))
        go_roundw
        case rel =>
          refine ⟨k + 2, v3, rs ++ [r2], rfl, hlt, by go_num, R3.out, ?_, B3.out⟩
          rw [List.map_append, MM.out, List.map_cons, List.map_nil, show k + 2 - 1 = k + 1 by omega, show k + 1 - 1 = k by omega, stepsC_succ, C2.out, FX.out, FY.out]
        case measure =>
          simp [intOf]
          go_num
    · obtain rfl : j = n := by omega
      clear hj
      go_wp2
      go_ret
      exact ⟨_, rs, rfl, RR.out, MM.out, HB.out⟩
/-- What follows slowly. -/
def smC (keep : Option Nat) (cs : List (Option Nat)) : Nat → Option Nat
  | 0 => cs.getD 0 none
  | n + 1 => fop .add (fop .mul keep (smC keep cs n)) (fop .mul (fop .sub (some 4607182418800017408) keep) (cs.getD (n + 1) none))
def smoothC (keep : Option Nat) (cs : List (Option Nat)) (n : Nat) : List (Option Nat) := (List.range n).map (smC keep cs)
theorem smoothC_succ (keep : Option Nat) (cs : List (Option Nat)) (n : Nat) : smoothC keep cs (n + 1) = smoothC keep cs n ++ [smC keep cs n] := by
  unfold smoothC
  rw [List.range_succ, List.map_append]
  rfl
theorem smoothC_len (keep : Option Nat) (cs : List (Option Nat)) (n : Nat) : (smoothC keep cs n).length = n := by simp [smoothC]
theorem smoothC_at {keep : Option Nat} {cs : List (Option Nat)} {n j x : Nat} {rs : List Nat} (h : rs.map cv = smoothC keep cs n) (hj : j < n) (hx : rs[j]? = some x) : cv x = smC keep cs j := by
  have h_ := congrArg (fun t => t[j]?) h
  unfold smoothC at h_
  simp [hx, hj] at h_
  exact h_
theorem cv1 : cv 4607182418800017408 = some 4607182418800017408 := by decide
end Go.Proofs.Ytngncegokmppiaa.Flo
namespace Go.Proofs.Ytngncegokmppiaa.Flo
open Go Go.RowKit Go.Proofs.Ytngncegokmppiaa.Reg Go.Proofs.YtngncegokmppiaaW.PrintWords Go.Proofs.YtngncegokmppiaaW.PrintLast Go.Proofs.YtngncegokmppiaaW.PrintMore
set_option linter.unusedVariables false
set_option linter.unusedSimpArgs false
set_option maxHeartbeats 2000000 in
set_option maxRecDepth 100000 in
theorem Smooth_as {w : World} {A : Option Addr} {c : Nat} {l : List Nat} (n : Nat) (hr : Kd.C kF w A n l) (hn : l.length = n) (hc : n ≤ c) (hl : n ≤ 4096) (keep : Nat) : Calls Try.prog 26 #[.slice A n c, .float .f64 keep] w fun e w' => ∃ (v : Value) (rs : List Nat), e = .returned v ∧ Kd.R kF 23 w' w.heap.size (fun _ => True) v rs ∧ rs.map cv = smoothC (cv keep) (l.map cv) n ∧ Below w.heap.size w w' := by
  have HR := Aside0.mk hr
  have HN := Aside0.mk hn
  clear hr hn
  go_enter Try.func26, Try.ntmps26
  go_wp2_with (first
    | ((with_reducible refine gate_dst (N := 12) rfl ?_); refine fop_event rfl (N := 12) rfl rfl (.inr (.inl rfl)) rfl rfl ?_; intro rr w0 hcv hb2 hw2; have CR := Aside0.mk hcv; have B0 := Aside0.mk hb2; clear hcv hb2 hw2))
  have HR0 := Aside0.mk (Kd.C_below HR.out B0.out)
  go_loopw [5, 15] (fun v i wr => ∃ (j : Nat) (v' : Value) (rs : List Nat), v' = v ∧ j ≤ n ∧ i = .int .i64 (j : Int) ∧ Kd.R kF 23 wr w.heap.size (fun _ => True) v' rs ∧ rs.map cv = smoothC (cv keep) (l.map cv) j ∧ Below w.heap.size w wr) (fun _ i _ => n - (intOf i).toNat)
  case atStart => exact ⟨0, _, [], rfl, Nat.zero_le _, rfl, Kd.R_nil _ _ _ _ _, rfl, B0.out⟩
  case round =>
    obtain ⟨j, v', rs, rfl, hj, rfl, hR, hm, hb⟩ := hrel
    have RR := Aside0.mk hR
    have MM := Aside0.mk hm
    have HB := Aside0.mk hb
    have LL := Aside0.mk (show rs.length = j by have h_ := congrArg List.length hm; rw [List.length_map, smoothC_len] at h_; exact h_)
    clear hR hm hb
    by_cases hlt : j < n
    · rcases Nat.eq_zero_or_pos j with h0 | h0
      · subst h0
        obtain ⟨ad, x, hA, hx, hcx⟩ := flo_at (Kd.C_below HR.out HB.out) 0 hlt
        subst hA
        rw [show ad.add 0 = ad from rfl] at hcx
        have FX := Aside0.mk (map_at hx)
        clear hx
        go_wp2_with (first
          | ((with_reducible refine gate_dst (N := 38) rfl ?_); refine Kd.R_append kF (w0 := w) w.heap.size rfl (.tmp 35) (.tmp 37) 22 23 (.float .f64 0) 8 rfl Try.underlying22 info_f64 rfl (by decide) (by omega) v' rs x [.float .f64 x] (fun _ => True) (fun _ => False) rfl rfl rfl (fun _ hk => hk.elim) (fun _ _ => trivial) RR.out HB.out HB.out.size (by have h_ := LL.out; omega) ?_; intro v3 w3 hO hb3 hg3 hn3; have R3 := Aside0.mk hO; have B3 := Aside0.mk hb3; clear hO hb3 hg3 hn3))
        go_roundw
        case rel =>
          refine ⟨1, v3, rs ++ [x], rfl, hlt, by go_num, R3.out, ?_, B3.out⟩
          rw [List.map_append, MM.out, List.map_cons, List.map_nil, smoothC_succ, ← FX.out]
          rfl
        case measure =>
          simp [intOf]
          go_num
      · obtain ⟨k, rfl⟩ : ∃ k, j = k + 1 := ⟨j - 1, by omega⟩
        obtain ⟨ad, x, hA, hx, hcx⟩ := flo_at (Kd.C_below HR.out HB.out) (k + 1) hlt
        obtain ⟨g, cap, ev, hC, hcap⟩ := R_read (k + 1) LL.out (by omega) RR.out
        subst hA ev
        obtain ⟨bd, y, hB, hy, _⟩ := flo_at hC k (by omega)
        have hcy := flo_cell hC k (by omega) hy
        rw [add_succ] at hcx
        have FX := Aside0.mk (map_at hx)
        have FY := Aside0.mk (smoothC_at MM.out (by omega) hy)
        have e1 : ((k : Int) + 1).toNat = k + 1 := by omega
        have e2 : ((k + 1 : Nat) : Int) = (k : Int) + 1 := by omega
        have e3 : (k : Int) + 1 - 1 = (k : Int) := by omega
        have e4 : (0 : Int) < (k : Int) + 1 := by omega
        have hk1 : (k : Int) + 1 < n := by omega
        have hk2 : (k : Int) < (k : Int) + 1 := by omega
        have hwk : IntKind.i64.wrap (k : Int) = (k : Int) := IntWalk.i64_in _ (by omega)
        clear hx hy hj h0 hB hC
        rw [e2]
        go_wp2_with (first
          | ((with_reducible refine gate_dst (N := 28) rfl ?_); refine fop_event rfl (N := 28) rfl rfl (.inr (.inr (.inl rfl))) rfl rfl ?_; intro r1 w1 hcv hb2 hw2; have C1 := Aside0.mk hcv; have B1 := Aside0.mk (HB.out.trans (hb2.mono HB.out.size)); have R1 := Aside0.mk (Kd.R_below RR.out hb2); clear hcv hb2 hw2)
          | ((with_reducible refine gate_dst (N := 31) rfl ?_); refine fop_event rfl (N := 31) rfl rfl (.inr (.inr (.inl rfl))) rfl rfl ?_; intro r2 w2 hcv hb2 hw2; have C2 := Aside0.mk hcv; have B2 := Aside0.mk (B1.out.trans (hb2.mono B1.out.size)); have R2 := Aside0.mk (Kd.R_below R1.out hb2); clear hcv hb2 hw2)
          | ((with_reducible refine gate_dst (N := 34) rfl ?_); refine fop_event rfl (N := 34) rfl rfl (.inl rfl) rfl rfl ?_; intro r3 w3 hcv hb2 hw2; have C3 := Aside0.mk hcv; have B3 := Aside0.mk (B2.out.trans (hb2.mono B2.out.size)); have R3 := Aside0.mk (Kd.R_below R2.out hb2); clear hcv hb2 hw2)
          | ((with_reducible refine gate_dst (N := 38) rfl ?_); refine Kd.R_append kF (w0 := w) w.heap.size rfl (.tmp 35) (.tmp 37) 22 23 (.float .f64 0) 8 rfl Try.underlying22 info_f64 rfl (by decide) (by omega) _ rs r3 [.float .f64 r3] (fun _ => True) (fun _ => False) rfl rfl rfl (fun _ hk => hk.elim) (fun _ _ => trivial) R3.out B3.out B3.out.size (by have h_ := LL.out; omega) ?_; intro v4 w4 hO hb3 hg3 hn3; have R4 := Aside0.mk hO; have B4 := Aside0.mk hb3; clear hO hb3 hg3 hn3))
        go_roundw
        case rel =>
          refine ⟨k + 2, v4, rs ++ [r3], rfl, hlt, by go_num, R4.out, ?_, B4.out⟩
          rw [List.map_append, MM.out, List.map_cons, List.map_nil, smoothC_succ (cv keep) _ (k + 1)]
          rw [C3.out, C2.out, C1.out, CR.out, FY.out, ← FX.out, cv1]
          rfl
        case measure =>
          simp [intOf]
          go_num
    · obtain rfl : j = n := by omega
      clear hj
      go_wp2
      go_ret
      exact ⟨_, rs, rfl, RR.out, MM.out, HB.out⟩
set_option maxHeartbeats 2000000 in
set_option maxRecDepth 100000 in
theorem SmoothR_as {w : World} {A : Option Addr} {c : Nat} {l : List Nat} (n : Nat) (hr : Kd.C kF w A n l) (hn : l.length = n) (hc : n ≤ c) (hl : n ≤ 4096) (keep : Nat) : Calls Try.prog 27 #[.slice A n c, .float .f64 keep] w fun e w' => ∃ (v : Value) (rs : List Nat), e = .returned v ∧ Kd.R kF 23 w' w.heap.size (fun _ => True) v rs ∧ rs.map cv = smoothC (cv keep) (l.map cv) n ∧ Below w.heap.size w w' := by
  have HR := Aside0.mk hr
  have HN := Aside0.mk hn
  clear hr hn
  go_enter Try.func27, Try.ntmps27
  go_wp2_with (first
    | ((with_reducible refine gate_dst (N := 11) rfl ?_); refine fop_event rfl (N := 11) rfl rfl (.inr (.inl rfl)) rfl rfl ?_; intro rr w0 hcv hb2 hw2; have CR := Aside0.mk hcv; have B0 := Aside0.mk hb2; clear hcv hb2 hw2))
  have HR0 := Aside0.mk (Kd.C_below HR.out B0.out)
  go_loopw [5, 7] (fun v i wr => ∃ (j : Nat) (v' : Value) (rs : List Nat), v' = v ∧ j ≤ n ∧ i = .int .i64 (j : Int) ∧ Kd.R kF 23 wr w.heap.size (fun _ => True) v' rs ∧ rs.map cv = smoothC (cv keep) (l.map cv) j ∧ Below w.heap.size w wr) (fun _ i _ => n - (intOf i).toNat)
  case atStart => exact ⟨0, _, [], rfl, Nat.zero_le _, rfl, Kd.R_nil _ _ _ _ _, rfl, B0.out⟩
  case round =>
    obtain ⟨j, v', rs, rfl, hj, rfl, hR, hm, hb⟩ := hrel
    have RR := Aside0.mk hR
    have MM := Aside0.mk hm
    have HB := Aside0.mk hb
    have LL := Aside0.mk (show rs.length = j by have h_ := congrArg List.length hm; rw [List.length_map, smoothC_len] at h_; exact h_)
    clear hR hm hb
    by_cases hlt : j < n
    · rcases Nat.eq_zero_or_pos j with h0 | h0
      · subst h0
        obtain ⟨ad, x, hA, hx, hcx⟩ := flo_at (Kd.C_below HR.out HB.out) 0 hlt
        subst hA
        rw [show ad.add 0 = ad from rfl] at hcx
        have FX := Aside0.mk (map_at hx)
        clear hx
        go_wp2_with (first
          | ((with_reducible refine gate_dst (N := 25) rfl ?_); refine Kd.R_append kF (w0 := w) w.heap.size rfl (.tmp 20) (.tmp 24) 22 23 (.float .f64 0) 8 rfl Try.underlying22 info_f64 rfl (by decide) (by omega) v' rs x [.float .f64 x] (fun _ => True) (fun _ => False) rfl rfl rfl (fun _ hk => hk.elim) (fun _ _ => trivial) RR.out HB.out HB.out.size (by have h_ := LL.out; omega) ?_; intro v3 w3 hO hb3 hg3 hn3; have R3 := Aside0.mk hO; have B3 := Aside0.mk hb3; clear hO hb3 hg3 hn3))
        go_roundw
        case rel =>
          refine ⟨1, v3, rs ++ [x], rfl, hlt, by go_num, R3.out, ?_, B3.out⟩
          rw [List.map_append, MM.out, List.map_cons, List.map_nil, smoothC_succ, ← FX.out]
          rfl
        case measure =>
          simp [intOf]
          go_num
      · obtain ⟨k, rfl⟩ : ∃ k, j = k + 1 := ⟨j - 1, by omega⟩
        obtain ⟨ad, x, hA, hx, hcx⟩ := flo_at (Kd.C_below HR.out HB.out) (k + 1) hlt
        obtain ⟨g, cap, ev, hC, hcap⟩ := R_read (k + 1) LL.out (by omega) RR.out
        subst hA ev
        obtain ⟨bd, y, hB, hy, _⟩ := flo_at hC k (by omega)
        have hcy := flo_cell hC k (by omega) hy
        rw [add_succ] at hcx
        have FX := Aside0.mk (map_at hx)
        have FY := Aside0.mk (smoothC_at MM.out (by omega) hy)
        have e1 : ((k : Int) + 1).toNat = k + 1 := by omega
        have e2 : ((k + 1 : Nat) : Int) = (k : Int) + 1 := by omega
        have e3 : (k : Int) + 1 - 1 = (k : Int) := by omega
        have e4 : ((k : Int) + 1 = 0) = False := eq_false (by omega)
        have hk1 : (k : Int) + 1 < n := by omega
        have hk2 : (k : Int) < (k : Int) + 1 := by omega
        have hwk : IntKind.i64.wrap (k : Int) = (k : Int) := IntWalk.i64_in _ (by omega)
        clear hx hy hj h0 hB hC
        rw [e2]
        go_wp2_with (first
          | ((with_reducible refine gate_dst (N := 32) rfl ?_); refine fop_event rfl (N := 32) rfl rfl (.inr (.inr (.inl rfl))) rfl rfl ?_; intro r1 w1 hcv hb2 hw2; have C1 := Aside0.mk hcv; have B1 := Aside0.mk (HB.out.trans (hb2.mono HB.out.size)); have R1 := Aside0.mk (Kd.R_below RR.out hb2); have hcx1 := cell_b hb2 hcx; clear hcv hb2 hw2)
          | ((with_reducible refine gate_dst (N := 38) rfl ?_); refine fop_event rfl (N := 38) rfl rfl (.inr (.inr (.inl rfl))) rfl rfl ?_; intro r2 w2 hcv hb2 hw2; have C2 := Aside0.mk hcv; have B2 := Aside0.mk (B1.out.trans (hb2.mono B1.out.size)); have R2 := Aside0.mk (Kd.R_below R1.out hb2); clear hcv hb2 hw2)
          | ((with_reducible refine gate_dst (N := 42) rfl ?_); refine fop_event rfl (N := 42) rfl rfl (.inl rfl) rfl rfl ?_; intro r3 w3 hcv hb2 hw2; have C3 := Aside0.mk hcv; have B3 := Aside0.mk (B2.out.trans (hb2.mono B2.out.size)); have R3 := Aside0.mk (Kd.R_below R2.out hb2); clear hcv hb2 hw2)
          | ((with_reducible refine gate_dst (N := 44) rfl ?_); refine Kd.R_append kF (w0 := w) w.heap.size rfl (.tmp 39) (.tmp 43) 22 23 (.float .f64 0) 8 rfl Try.underlying22 info_f64 rfl (by decide) (by omega) _ rs r3 [.float .f64 r3] (fun _ => True) (fun _ => False) rfl rfl rfl (fun _ hk => hk.elim) (fun _ _ => trivial) R3.out B3.out B3.out.size (by have h_ := LL.out; omega) ?_; intro v4 w4 hO hb3 hg3 hn3; have R4 := Aside0.mk hO; have B4 := Aside0.mk hb3; clear hO hb3 hg3 hn3))
        go_roundw
        case rel =>
          refine ⟨k + 2, v4, rs ++ [r3], rfl, hlt, by go_num, R4.out, ?_, B4.out⟩
          rw [List.map_append, MM.out, List.map_cons, List.map_nil, smoothC_succ (cv keep) _ (k + 1)]
          rw [C3.out, C2.out, C1.out, CR.out, FY.out, ← FX.out, cv1]
          rfl
        case measure =>
          simp [intOf]
          go_num
    · obtain rfl : j = n := by omega
      clear hj
      go_wp2
      go_ret
      exact ⟨_, rs, rfl, RR.out, MM.out, HB.out⟩
end Go.Proofs.Ytngncegokmppiaa.Flo
