/- FloZ, FloZa, FloZb in one text. -/
import Derived.Test.YtngncegokmppiaaFloY
import Derived.Test.YtngncegokmppiaaFloR
import Derived.Test.YtngncegokmppiaaHArr
namespace Go.Proofs.Ytngncegokmppiaa.Flo
open Go Go.RowKit Go.Proofs.Ytngncegokmppiaa.Reg Go.Proofs.YtngncegokmppiaaW.PrintWords Go.Proofs.YtngncegokmppiaaW.PrintLast Go.Proofs.YtngncegokmppiaaW.PrintMore
set_option linter.unusedVariables false
set_option linter.unusedSimpArgs false
set_option maxHeartbeats 2000000 in
set_option maxRecDepth 100000 in
theorem PartR60 {w : World} {A : Option Addr} {c : Nat} {l : List Nat} (N : Nat) (hr : Kd.C kF w A N l) (hN : l.length = N) (h0 : 0 < N) (hl : N ≤ 60) (nu de q : Nat) (h1 : 1 ≤ de) (h2 : de ≤ 1000) (h3 : nu ≤ de) (hq : nu * (N - 1) / de = q) :
    Calls Try.prog 15 #[.slice A N c, .int .i64 nu, .int .i64 de] w fun e w' => ∃ x Z, e = .returned (.tuple #[.float .f64 x, .bool true]) ∧ Srt Z ∧ Z.Perm l ∧ Z[q]? = some x ∧ Below w.heap.size w w' := by
  have HR := Aside0.mk hr
  have HL := Aside0.mk hN
  obtain ⟨n1, hn1⟩ : ∃ n1, N - 1 = n1 := ⟨_, rfl⟩
  obtain ⟨p, hp⟩ : ∃ p, nu * n1 = p := ⟨_, rfl⟩
  have hpb : p ≤ 60 * de := by
    rw [← hp]
    have a1 : nu * n1 ≤ de * n1 := Nat.mul_le_mul_right _ h3
    have a2 : de * n1 ≤ de * 60 := Nat.mul_le_mul_left _ (by omega)
    omega
  have hqN : q < N := by
    rw [← hq, hn1, hp]
    refine Nat.div_lt_of_lt_mul ?_
    rw [← hp]
    have a1 : nu * n1 ≤ de * n1 := Nat.mul_le_mul_right _ h3
    have a2 : de * n1 < de * N := Nat.mul_lt_mul_of_pos_left (by omega) (by omega)
    omega
  have e1 : (N : Int) - 1 = (n1 : Int) := by omega
  have e2 : (nu : Int) * (n1 : Int) = (p : Int) := by rw [← hp]; exact (Int.natCast_mul nu n1).symm
  have hdq : p / de = q := by rw [← hp, ← hn1]; exact hq
  have e3 : Int.tdiv (p : Int) (de : Int) = (q : Int) := by rw [← hdq]; rfl
  have e4 : (p : Int) / (de : Int) = (q : Int) := by rw [← hdq]; rfl
  have w0 : IntKind.i64.wrap (n1 : Int) = (n1 : Int) := IntWalk.i64_in _ (by omega)
  have w1 : IntKind.i64.wrap (p : Int) = (p : Int) := IntWalk.i64_in _ (by omega)
  have w2 : IntKind.i64.wrap (q : Int) = (q : Int) := IntWalk.i64_in _ (by omega)
  have g1 : ((N : Int) == 0) = false := by rw [beq_eq_false_iff_ne]; omega
  have g2 : decide ((de : Int) < 1) = false := decide_eq_false (by omega)
  have g3 : decide ((1000 : Int) < (de : Int)) = false := decide_eq_false (by omega)
  have g4 : decide ((nu : Int) < 0) = false := decide_eq_false (by omega)
  have g5 : decide ((de : Int) < (nu : Int)) = false := decide_eq_false (by omega)
  have hde : ((de : Int) == 0) = false := by rw [beq_eq_false_iff_ne]; omega
  have hde' : ((de : Int) = 0) = False := eq_false (by omega)
  have hdn : (de = 0) = False := eq_false (by omega)
  have hdm : ((de : Int) == -1) = false := by rw [beq_eq_false_iff_ne]; omega
  clear hr hN hn1 hp hq hdq hpb
  go_enter Try.func15, Try.ntmps15
  go_wp2
  refine wp_region_text (fun W => Below w.heap.size w W) (fun i => [1, 10].contains i) (by kernel_rfl) (by kernel_rfl) (Below.refl _ _).drew ?_
  have HD := Aside0.mk (Kd.C_below HR.out (Below.refl _ _).drew)
  have BD := Aside0.mk (Below.refl w.heap.size w).drew
  generalize w.drew = wd at HD BD ⊢
  repeat (first
    | ((apply S_val rfl; (first | exact wanted_none rfl | exact wanted_yes rfl rfl (by kernel_rfl)); (intro W hW R hR; go_simp; exact hR)); go_frame)
    | ((refine S_call rfl ?_ ?_ (SortR60 (c := c) N HD.out HL.out hl) ?_; (first | exact wanted_none rfl | exact wanted_yes rfl rfl (by kernel_rfl)); (focus (first | (go_simp; done) | (go_simp; rfl)))); rintro e wn ⟨v, Z, rfl, z1, z2, hR, hb⟩; obtain ⟨g, cap, ev, hC, _⟩ := R_read N (z2.length_eq.trans HL.out) h0 hR; subst ev; clear hR; have BN := Aside0.mk (BD.out.trans (hb.mono BD.out.size)); have Z1 := Aside0.mk z1; have Z2 := Aside0.mk z2; obtain ⟨ad, x, hA, hx, hcell⟩ := flo_at hC q hqN; have HX := Aside0.mk hx; have hc1 := flo_cell hC q hqN hx; clear hC hb hA hx hcell z1 z2; refine ⟨_, rfl, BN.out, ?_⟩; go_frame)
    | ((refine S_ev (w' := wn) (v := .float .f64 x) rfl ?_ ?_ BN.out ?_; (first | exact wanted_none rfl | exact wanted_yes rfl rfl (by kernel_rfl)); (focus (first | (go_simp; done) | (go_simp; rfl)))); go_frame))
  apply S_nil
  go_wp2
  go_returns
  exact ⟨x, Z, rfl, Z1.out, Z2.out, HX.out, BN.out⟩
theorem PartR_as {w : World} {A : Option Addr} {c : Nat} {l : List Nat} (N : Nat) (hr : Kd.C kF w A N l) (hN : l.length = N) (h0 : 0 < N) (hl : N ≤ 60) (num den : Int) (nu de q : Nat) (hnu : (nu : Int) = num) (hde : (de : Int) = den) (h1 : 1 ≤ de) (h2 : de ≤ 1000) (h3 : nu ≤ de) (hq : nu * (N - 1) / de = q) :
    Calls Try.prog 15 #[.slice A N c, .int .i64 num, .int .i64 den] w fun e w' => ∃ x Z, e = .returned (.tuple #[.float .f64 x, .bool true]) ∧ Srt Z ∧ Z.Perm l ∧ Z[q]? = some x ∧ Below w.heap.size w w' := by
  subst hnu hde
  exact PartR60 N hr hN h0 hl nu de q h1 h2 h3 hq
set_option maxHeartbeats 2000000 in
theorem PartR_none (w : World) (A : Option Addr) (c N : Nat) (num den : Int) (h : N = 0 ∨ den < 1 ∨ 1000 < den ∨ num < 0 ∨ den < num) :
    Calls Try.prog 15 #[.slice A N c, .int .i64 num, .int .i64 den] w fun e w' => e = .returned (.tuple #[.float .f64 0, .bool false]) ∧ Below w.heap.size w w' := by
  by_cases h1 : N = 0
  · have g1 : ((N : Int) == 0) = true := by rw [beq_iff_eq]; omega
    go_enter Try.func15, Try.ntmps15
    go_wp2
    go_returns
    exact ⟨rfl, Below.refl _ _⟩
  have g1 : ((N : Int) == 0) = false := by rw [beq_eq_false_iff_ne]; omega
  by_cases h2 : den < 1
  · have g2 : decide (den < 1) = true := decide_eq_true h2
    go_enter Try.func15, Try.ntmps15
    go_wp2
    go_returns
    exact ⟨rfl, Below.refl _ _⟩
  have g2 : decide (den < 1) = false := decide_eq_false h2
  by_cases h3 : 1000 < den
  · have g3 : decide (1000 < den) = true := decide_eq_true h3
    go_enter Try.func15, Try.ntmps15
    go_wp2
    go_returns
    exact ⟨rfl, Below.refl _ _⟩
  have g3 : decide (1000 < den) = false := decide_eq_false h3
  by_cases h4 : num < 0
  · have g4 : decide (num < 0) = true := decide_eq_true h4
    go_enter Try.func15, Try.ntmps15
    go_wp2
    go_returns
    exact ⟨rfl, Below.refl _ _⟩
  have g4 : decide (num < 0) = false := decide_eq_false h4
  have h5 : den < num := by omega
  have g5 : decide (den < num) = true := decide_eq_true h5
  go_enter Try.func15, Try.ntmps15
  go_wp2
  go_returns
  exact ⟨rfl, Below.refl _ _⟩
theorem info_I : (Try.prog.info? 3).map (fun i => (i.zero, i.size, i.bytes)) = some (some (.int .i64 0), 1, 8) := by kernel_rfl
theorem mIsNaN_calls (w : World) (x : Nat) : Calls Try.prog 34 #[.float .f64 x] w fun e w' => e = .returned (.bool (isN x)) ∧ w = w' := by
  have h := ord_self x
  go_enter Try.func34, Try.ntmps34
  go_wp2
  go_ret
  refine ⟨?_, rfl⟩
  show Ending.returned (.bool (FloatKind.f64.format.order x x != some Ordering.eq)) = _
  have e : (FloatKind.f64.format.order x x != some Ordering.eq) = isN x := by
    show (!(ord x x == some .eq)) = isN x
    rw [h, Bool.not_not]
  rw [e]
theorem mIsNaN_as (w : World) (x : Nat) (b : Bool) (h : isN x = b) : Calls Try.prog 34 #[.float .f64 x] w fun e w' => e = .returned (.bool b) ∧ w = w' := by
  rw [← h]
  exact mIsNaN_calls w x
/-- The places of marks. -/
def farSt (bs : List Bool) : Nat → List Int
  | 0 => []
  | n + 1 => if bs.getD n false then farSt bs n ++ [(n : Int)] else farSt bs n
theorem farSt_len (bs : List Bool) : ∀ n, (farSt bs n).length ≤ n
  | 0 => Nat.le_refl _
  | n + 1 => by
    have := farSt_len bs n
    unfold farSt
    split
    · simp; omega
    · omega
def farB (l : List Nat) (e : Int) : List Bool := l.map fun x => isN x || decide (e < key x)
theorem farB_at {l : List Nat} {e : Int} {j x : Nat} (h : l[j]? = some x) : (farB l e).getD j false = (isN x || decide (e < key x)) := by
  unfold farB
  rw [List.getD_eq_getElem?_getD, List.getElem?_map, h]
  rfl
def keyO : Option Nat → Int
  | some x => key x
  | none => -18446744073709551616
theorem key_keyO (x : Nat) : key x = keyO (cv x) := by
  cases h : isN x with
  | true => rw [cv_none h, key_nan h]; rfl
  | false => rw [cv_some h]; rfl
set_option maxHeartbeats 4000000 in
set_option maxRecDepth 100000 in
theorem Far_calls {w : World} {A : Option Addr} {c : Nat} {l : List Nat} (N : Nat) (hr : Kd.C kF w A N l) (hN : l.length = N) (h0 : 0 < N) (hl : N ≤ 60) (times : Nat) (c0 : Option Nat) (hc0 : ∀ x Z, Srt Z → Z.Perm l → Z[1 * (N - 1) / 2]? = some x → cv x = c0) (e0 : Int) (he0 : keyO (fop .mul (cv times) c0) = e0) : Calls Try.prog 16 #[.slice A N c, .float .f64 times] w fun e w' => ∃ v, e = .returned v ∧ Kd.R (Kd.int .i64) 3 w' w.heap.size (fun _ => True) v (farSt (farB l e0) N) ∧ Below w.heap.size w w' := by
  have HR := Aside0.mk hr
  have HL := Aside0.mk hN
  have H0 := Aside0.mk hc0
  have E0 := Aside0.mk he0
  clear hr hN hc0 he0
  go_enter Try.func16, Try.ntmps16
  go_wp2_with (first
    | (go_at_call 12; refine (Part_as N HR.out HL.out h0 hl 1 2 1 2 _ rfl rfl (by omega) (by omega) (by omega) rfl).mono ?_; rintro e w1 ⟨x, Z, rfl, z1, z2, z3, hb⟩; have CX := Aside0.mk (H0.out x Z z1 z2 z3); have B1 := Aside0.mk hb; clear z1 z2 z3 hb)
    | ((with_reducible refine gate_dst (N := 20) rfl ?_); refine fop_event rfl (N := 20) rfl rfl (.inr (.inr (.inl rfl))) rfl rfl ?_; intro ed w2 hcv hb2 hw2; have KE := Aside0.mk (show key ed = e0 by rw [key_keyO, hcv, CX.out]; exact E0.out); have B2 := Aside0.mk (B1.out.trans (hb2.mono B1.out.size)); clear hcv hb2 hw2))
  have HR0 := Aside0.mk HR.out
  go_loopw [8, 23] (fun v i wr => ∃ (j : Nat) (v' : Value), v' = v ∧ j ≤ N ∧ i = .int .i64 (j : Int) ∧ Kd.R (Kd.int .i64) 3 wr w.heap.size (fun _ => True) v' (farSt (farB l e0) j) ∧ Below w.heap.size w wr) (fun _ i _ => N - (intOf i).toNat)
  case atStart => exact ⟨0, _, rfl, Nat.zero_le _, rfl, Kd.R_nil _ _ _ _ _, B2.out⟩
  case round =>
    obtain ⟨j, v', rfl, hj, rfl, hR, hb⟩ := hrel
    have RR := Aside0.mk hR
    have HB := Aside0.mk hb
    clear hR hb
    by_cases hlt : j < N
    · obtain ⟨ad, y, hA, hy, hcx⟩ := flo_at (Kd.C_below HR0.out HB.out) j hlt
      have FB := Aside0.mk (farB_at (e := e0) hy)
      subst hA
      clear hy
      obtain ⟨p, hp⟩ : ∃ p, isN y = p := ⟨_, rfl⟩
      have NP := Aside0.mk hp
      obtain ⟨t, ht⟩ : ∃ t, decide (e0 < key y) = t := ⟨_, rfl⟩
      have TP := Aside0.mk ht
      have FT := Aside0.mk (show (farB l e0).getD j false = (p || t) by rw [FB.out, hp, ht])
      clear hp ht FB hj
      cases p with
      | true =>
        go_wp2_with (first
          | (go_at_call 34; refine (mIsNaN_as _ y _ NP.out).mono ?_; rintro e wq ⟨rfl, rfl⟩)
          | ((with_reducible refine gate_dst (N := 39) rfl ?_); refine Kd.R_append (Kd.int .i64) (w0 := w) w.heap.size rfl (.tmp 36) (.tmp 38) 37 3 (.int .i64 0) 8 rfl Try.underlying37 info_I rfl (by decide) (by omega) v' (farSt (farB l e0) j) (j : Int) [.int .i64 (j : Int)] (fun _ => True) (fun _ => False) rfl rfl rfl (fun _ hk => hk.elim) (fun _ _ => trivial) RR.out HB.out HB.out.size (by have h_ := farSt_len (farB l e0) j; omega) ?_; intro v3 w3 hO hb3 hg3 hn3; have R3 := Aside0.mk hO; have B3 := Aside0.mk hb3; clear hO hb3 hg3 hn3))
        go_roundw
        case rel => exact ⟨j + 1, v3, rfl, hlt, by go_num, by unfold farSt; rw [FT.out]; exact R3.out, B3.out⟩
        case measure =>
          simp [intOf]
          go_num
      | false =>
        cases t with
        | true =>
          obtain ⟨cc, hcc, hcp⟩ : ∃ cc, cmpF y ed = cc ∧ 0 < cc := ⟨_, rfl, (cmpF_pos y ed).2 (by rw [KE.out]; exact of_decide_eq_true TP.out)⟩
          have CC := Aside0.mk hcc
          have hcd : decide (0 < cc) = true := decide_eq_true hcp
          clear hcc
          go_wp2_with (first
            | (go_at_call 34; refine (mIsNaN_as _ y _ NP.out).mono ?_; rintro e wq ⟨rfl, rfl⟩)
            | (go_at_call 11; refine (gCmp_as _ y ed cc CC.out).mono ?_; rintro e wq ⟨rfl, rfl⟩)
            | ((with_reducible refine gate_dst (N := 39) rfl ?_); refine Kd.R_append (Kd.int .i64) (w0 := w) w.heap.size rfl (.tmp 36) (.tmp 38) 37 3 (.int .i64 0) 8 rfl Try.underlying37 info_I rfl (by decide) (by omega) v' (farSt (farB l e0) j) (j : Int) [.int .i64 (j : Int)] (fun _ => True) (fun _ => False) rfl rfl rfl (fun _ hk => hk.elim) (fun _ _ => trivial) RR.out HB.out HB.out.size (by have h_ := farSt_len (farB l e0) j; omega) ?_; intro v3 w3 hO hb3 hg3 hn3; have R3 := Aside0.mk hO; have B3 := Aside0.mk hb3; clear hO hb3 hg3 hn3))
          go_roundw
          case rel => exact ⟨j + 1, v3, rfl, hlt, by go_num, by unfold farSt; rw [FT.out]; exact R3.out, B3.out⟩
          case measure =>
            simp [intOf]
            go_num
        | false =>
          obtain ⟨cc, hcc, hcp⟩ : ∃ cc, cmpF y ed = cc ∧ ¬ 0 < cc := ⟨_, rfl, fun h_ => of_decide_eq_false TP.out (by rw [← KE.out]; exact (cmpF_pos y ed).1 h_)⟩
          have CC := Aside0.mk hcc
          have hcd : decide (0 < cc) = false := decide_eq_false hcp
          clear hcc
          go_wp2_with (first
            | (go_at_call 34; refine (mIsNaN_as _ y _ NP.out).mono ?_; rintro e wq ⟨rfl, rfl⟩)
            | (go_at_call 11; refine (gCmp_as _ y ed cc CC.out).mono ?_; rintro e wq ⟨rfl, rfl⟩))
          go_roundw
          case rel => exact ⟨j + 1, v', rfl, hlt, by go_num, by unfold farSt; rw [FT.out]; exact RR.out, HB.out⟩
          case measure =>
            simp [intOf]
            go_num
    · obtain rfl : j = N := by omega
      clear hj
      go_wp2
      go_returns
      exact ⟨_, rfl, RR.out, HB.out⟩
set_option maxHeartbeats 4000000 in
set_option maxRecDepth 100000 in
theorem FarR_calls {w : World} {A : Option Addr} {c : Nat} {l : List Nat} (N : Nat) (hr : Kd.C kF w A N l) (hN : l.length = N) (h0 : 0 < N) (hl : N ≤ 60) (times : Nat) (c0 : Option Nat) (hc0 : ∀ x Z, Srt Z → Z.Perm l → Z[1 * (N - 1) / 2]? = some x → cv x = c0) (e0 : Int) (he0 : keyO (fop .mul (cv times) c0) = e0) : Calls Try.prog 17 #[.slice A N c, .float .f64 times] w fun e w' => ∃ v, e = .returned v ∧ Kd.R (Kd.int .i64) 3 w' w.heap.size (fun _ => True) v (farSt (farB l e0) N) ∧ Below w.heap.size w w' := by
  have HR := Aside0.mk hr
  have HL := Aside0.mk hN
  have H0 := Aside0.mk hc0
  have E0 := Aside0.mk he0
  clear hr hN hc0 he0
  go_enter Try.func17, Try.ntmps17
  go_wp2_with (first
    | (go_at_call 15; refine (PartR_as N HR.out HL.out h0 hl 1 2 1 2 _ rfl rfl (by omega) (by omega) (by omega) rfl).mono ?_; rintro e w1 ⟨x, Z, rfl, z1, z2, z3, hb⟩; have CX := Aside0.mk (H0.out x Z z1 z2 z3); have B1 := Aside0.mk hb; clear z1 z2 z3 hb)
    | ((with_reducible refine gate_dst (N := 19) rfl ?_); refine fop_event rfl (N := 19) rfl rfl (.inr (.inr (.inl rfl))) rfl rfl ?_; intro ed w2 hcv hb2 hw2; have KE := Aside0.mk (show key ed = e0 by rw [key_keyO, hcv, CX.out]; exact E0.out); have B2 := Aside0.mk (B1.out.trans (hb2.mono B1.out.size)); clear hcv hb2 hw2))
  have HR0 := Aside0.mk HR.out
  go_loopw [8, 9] (fun v i wr => ∃ (j : Nat) (v' : Value), v' = v ∧ j ≤ N ∧ i = .int .i64 (j : Int) ∧ Kd.R (Kd.int .i64) 3 wr w.heap.size (fun _ => True) v' (farSt (farB l e0) j) ∧ Below w.heap.size w wr) (fun _ i _ => N - (intOf i).toNat)
  case atStart => exact ⟨0, _, rfl, Nat.zero_le _, rfl, Kd.R_nil _ _ _ _ _, B2.out⟩
  case round =>
    obtain ⟨j, v', rfl, hj, rfl, hR, hb⟩ := hrel
    have RR := Aside0.mk hR
    have HB := Aside0.mk hb
    clear hR hb
    by_cases hlt : j < N
    · obtain ⟨ad, y, hA, hy, hcx⟩ := flo_at (Kd.C_below HR0.out HB.out) j hlt
      have FB := Aside0.mk (farB_at (e := e0) hy)
      subst hA
      clear hy
      obtain ⟨p, hp⟩ : ∃ p, isN y = p := ⟨_, rfl⟩
      have NP := Aside0.mk hp
      obtain ⟨t, ht⟩ : ∃ t, decide (e0 < key y) = t := ⟨_, rfl⟩
      have TP := Aside0.mk ht
      have FT := Aside0.mk (show (farB l e0).getD j false = (p || t) by rw [FB.out, hp, ht])
      clear hp ht FB hj
      cases p with
      | true =>
        go_wp2_with (first
          | (go_at_call 35; refine (None_as _ y _ NP.out).mono ?_; rintro e wq ⟨rfl, rfl⟩)
          | ((with_reducible refine gate_dst (N := 42) rfl ?_); refine Kd.R_append (Kd.int .i64) (w0 := w) w.heap.size rfl (.tmp 39) (.tmp 41) 37 3 (.int .i64 0) 8 rfl Try.underlying37 info_I rfl (by decide) (by omega) v' (farSt (farB l e0) j) (j : Int) [.int .i64 (j : Int)] (fun _ => True) (fun _ => False) rfl rfl rfl (fun _ hk => hk.elim) (fun _ _ => trivial) RR.out HB.out HB.out.size (by have h_ := farSt_len (farB l e0) j; omega) ?_; intro v3 w3 hO hb3 hg3 hn3; have R3 := Aside0.mk hO; have B3 := Aside0.mk hb3; clear hO hb3 hg3 hn3))
        go_roundw
        case rel => exact ⟨j + 1, v3, rfl, hlt, by go_num, by unfold farSt; rw [FT.out]; exact R3.out, B3.out⟩
        case measure =>
          simp [intOf]
          go_num
      | false =>
        cases t with
        | true =>
          have AH := Aside0.mk (show decide (key ed < key y) = true by rw [KE.out]; exact TP.out)
          go_wp2_with (first
            | (go_at_call 35; refine (None_as _ y _ NP.out).mono ?_; rintro e wq ⟨rfl, rfl⟩)
            | (go_at_call 36; refine (Ahead_as _ ed y _ AH.out).mono ?_; rintro e wq ⟨rfl, rfl⟩)
            | ((with_reducible refine gate_dst (N := 42) rfl ?_); refine Kd.R_append (Kd.int .i64) (w0 := w) w.heap.size rfl (.tmp 39) (.tmp 41) 37 3 (.int .i64 0) 8 rfl Try.underlying37 info_I rfl (by decide) (by omega) v' (farSt (farB l e0) j) (j : Int) [.int .i64 (j : Int)] (fun _ => True) (fun _ => False) rfl rfl rfl (fun _ hk => hk.elim) (fun _ _ => trivial) RR.out HB.out HB.out.size (by have h_ := farSt_len (farB l e0) j; omega) ?_; intro v3 w3 hO hb3 hg3 hn3; have R3 := Aside0.mk hO; have B3 := Aside0.mk hb3; clear hO hb3 hg3 hn3))
          go_roundw
          case rel => exact ⟨j + 1, v3, rfl, hlt, by go_num, by unfold farSt; rw [FT.out]; exact R3.out, B3.out⟩
          case measure =>
            simp [intOf]
            go_num
        | false =>
          have AH := Aside0.mk (show decide (key ed < key y) = false by rw [KE.out]; exact TP.out)
          go_wp2_with (first
            | (go_at_call 35; refine (None_as _ y _ NP.out).mono ?_; rintro e wq ⟨rfl, rfl⟩)
            | (go_at_call 36; refine (Ahead_as _ ed y _ AH.out).mono ?_; rintro e wq ⟨rfl, rfl⟩))
          go_roundw
          case rel => exact ⟨j + 1, v', rfl, hlt, by go_num, by unfold farSt; rw [FT.out]; exact RR.out, HB.out⟩
          case measure =>
            simp [intOf]
            go_num
    · obtain rfl : j = N := by omega
      clear hj
      go_wp2
      go_returns
      exact ⟨_, rfl, RR.out, HB.out⟩
end Go.Proofs.Ytngncegokmppiaa.Flo
namespace Go.Proofs.Ytngncegokmppiaa.Flo
open Go Go.RowKit Go.Proofs.Ytngncegokmppiaa.Reg Go.Proofs.YtngncegokmppiaaW.PrintWords Go.Proofs.YtngncegokmppiaaW.PrintLast Go.Proofs.YtngncegokmppiaaW.PrintMore
set_option linter.unusedVariables false
set_option linter.unusedSimpArgs false
theorem seg_set {l : List Value} {k j : Nat} {v : Value} (h : k < j * 2 ∨ j * 2 + 2 ≤ k) : ((l.set k v).drop (j * 2)).take 2 = (l.drop (j * 2)).take 2 := by
  refine List.ext_getElem? fun i => ?_
  rw [List.getElem?_take, List.getElem?_take]
  by_cases hi : i < 2
  · rw [if_pos hi, if_pos hi, List.getElem?_drop, List.getElem?_drop, List.getElem?_set, if_neg (by omega)]
  · rw [if_neg hi, if_neg hi]
theorem seg_pair {l : List Value} {j : Nat} {a b v : Value} (h : (l.drop (j * 2)).take 2 = [a, b]) : ((l.set (j * 2 + 1) v).drop (j * 2)).take 2 = [a, v] := by
  have h0 := congrArg (fun t => t[0]?) h
  have h1 := congrArg (fun t => t[1]?) h
  simp only [List.getElem?_take, List.getElem?_drop] at h0 h1
  simp at h0 h1
  have hl := (List.getElem?_eq_some_iff.1 h1).1
  refine List.ext_getElem? fun i => ?_
  rw [List.getElem?_take]
  match i with
  | 0 => rw [if_pos (by omega), List.getElem?_drop, List.getElem?_set, if_neg (by omega)]; simpa using h0
  | 1 => rw [if_pos (by omega), List.getElem?_drop, List.getElem?_set, if_pos rfl, if_pos hl]; rfl
  | n + 2 => rw [if_neg (by omega)]; rfl
theorem kP_of {w : World} {base : Nat} {ok : Nat → Prop} {p : Int × Int} {cs : List Value} (h : kP.M w base ok p cs) : cs = [.int .i64 p.1, .int .i64 p.2] := by
  obtain ⟨a, b, rfl, ea, eb⟩ := h
  have ea : a = [Value.int .i64 p.1] := ea
  have eb : b = [Value.int .i64 p.2] := eb
  rw [ea, eb]
  rfl
theorem R_put_pair {w : World} {base g cap : Nat} {xs : List (Int × Int)} (h : Kd.R kP 29 w base (fun _ => True) (.slice (some ⟨g, 0, none⟩) xs.length cap) xs) {i : Nat} {p : Int × Int} (hi : xs[i]? = some p) (y : Int) : Kd.R kP 29 (w.setCell ⟨g, i * 2 + 1, none⟩ (.int .i64 y)) base (fun _ => True) (.slice (some ⟨g, 0, none⟩) xs.length cap) (xs.set i (p.1, y)) ∧ base ≤ g ∧ w.frozen? ⟨g, i * 2 + 1, none⟩ = false := by
  have hil := (List.getElem?_eq_some_iff.1 hi).1
  have hb := Kd.R_base h g rfl
  obtain ⟨hok, inner, hown, hreps⟩ := h
  obtain ⟨h1, h2 | ⟨g', cap', cur, hv, hbb, hh, h3, h4, h5, h6⟩⟩ := hown
  · cases h2.1
  · injection hv with hv _ hc
    injection hv with hv
    injection hv with hv
    subst hv hc
    refine ⟨⟨fun _ _ => trivial, inner.set (i * 2 + 1) (.int .i64 y), ?_, ?_⟩, hb, ?_⟩
    · have hs : (w.setCell ⟨g, i * 2 + 1, none⟩ (.int .i64 y)).heap[g]? = some (.cells (cur.setIfInBounds (i * 2 + 1) (.int .i64 y)) 29 (0, 0)) := by
        simp [World.setCell, hh, Array.getElem?_modify]
      refine ⟨by rw [List.length_set, h1, List.length_set], .inr ⟨g, cap, _, by rw [List.length_set], hbb, hs, by rw [List.length_set]; exact h3, h4, by simpa using h5, ?_⟩⟩
      rw [List.length_set, ← h6]
      simp [List.take_set]
    · refine ⟨by rw [List.length_set, hreps.1, List.length_set], fun j q hj => ?_⟩
      have hsz : kP.sz = 2 := rfl
      rw [hsz]
      rw [List.getElem?_set] at hj
      by_cases hij : i = j
      · rw [if_pos hij, if_pos hil] at hj
        obtain rfl := Option.some.inj hj
        subst hij
        have h7 := kP_of (hreps.2 i p hi)
        rw [hsz] at h7
        rw [seg_pair h7]
        exact kP_mk _ _ _ _ _
      · rw [if_neg hij] at hj
        have h7 := kP_of (hreps.2 j q hj)
        rw [hsz] at h7
        rw [seg_set (by omega), h7]
        exact kP_mk _ _ _ _ _
    · unfold World.frozen?
      simp [hh]
def refSt (bs : List Bool) (n : Nat) : List (Int × Int) := if 0 ≤ (runSt bs n).2 then (runSt bs n).1 ++ [((runSt bs n).2, (n : Int) - (runSt bs n).2)] else (runSt bs n).1
theorem refSt_end (bs : List Bool) : refSt bs bs.length = runsL bs := rfl
theorem refSt_off {bs : List Bool} {n : Nat} (h : bs.getD n false = false) : refSt bs (n + 1) = refSt bs n := by
  unfold refSt
  rw [runSt, h]
  generalize runSt bs n = s
  obtain ⟨rs, fr⟩ := s
  simp only [Bool.false_eq_true, if_false]
  by_cases hf : 0 ≤ fr
  · simp only [if_pos hf]
    rw [if_neg (by simp)]
  · simp only [if_neg hf]
theorem refSt_new {bs : List Bool} {n : Nat} (h : bs.getD n false = true) (hf : (runSt bs n).2 < 0) : refSt bs (n + 1) = refSt bs n ++ [((n : Int), 1)] := by
  unfold refSt
  rw [runSt, h]
  generalize runSt bs n = s at hf
  obtain ⟨rs, fr⟩ := s
  simp only at hf
  simp only [if_true, if_pos hf]
  rw [if_pos (by omega), if_neg (by omega)]
  congr 3
  omega
theorem refSt_more {bs : List Bool} {n : Nat} (h : bs.getD n false = true) (hf : 0 ≤ (runSt bs n).2) : refSt bs (n + 1) = (runSt bs n).1 ++ [((runSt bs n).2, (n : Int) - (runSt bs n).2 + 1)] ∧ refSt bs n = (runSt bs n).1 ++ [((runSt bs n).2, (n : Int) - (runSt bs n).2)] := by
  unfold refSt
  rw [runSt, h]
  generalize runSt bs n = s at hf
  obtain ⟨rs, fr⟩ := s
  simp only at hf
  simp only [if_true, if_neg (show ¬ fr < 0 by omega), if_pos hf]
  refine ⟨?_, trivial⟩
  congr 3
  omega
theorem refSt_len (bs : List Bool) (n : Nat) : (refSt bs n).length ≤ n + 1 := by
  have := (runSt_in bs n).2.2
  unfold refSt
  split
  · simp; omega
  · omega
/-- The last row ends ahead of a place where none is open. -/
theorem refSt_last {bs : List Bool} {n : Nat} (hf : (runSt bs n).2 < 0) {p : Int × Int} (hp : p ∈ refSt bs n) : 0 ≤ p.1 ∧ 1 ≤ p.2 ∧ p.1 + p.2 < n := by
  unfold refSt at hp
  rw [if_neg (by omega)] at hp
  have := (runSt_inv bs n).a p hp
  omega
theorem bit_key (x edge : Nat) : decide (0 < cmpF x edge) = decide (key edge < key x) := decide_eq_decide.2 (cmpF_pos x edge)
set_option maxHeartbeats 8000000 in
set_option maxRecDepth 100000 in
theorem RunsR_calls {w : World} {A : Option Addr} {c : Nat} {l : List Nat} (N : Nat) (hr : Kd.C kF w A N l) (hN : l.length = N) (hl : N ≤ 60) (edge : Nat) : Calls Try.prog 20 #[.slice A N c, .float .f64 edge] w fun e w' => ∃ v, e = .returned v ∧ Kd.R kP 29 w' w.heap.size (fun _ => True) v (runsL (bitsOf l edge)) ∧ Below w.heap.size w w' := by
  have HR := Aside0.mk hr
  have HL := Aside0.mk hN
  obtain ⟨bs, hbs⟩ : ∃ bs, bitsOf l edge = bs := ⟨_, rfl⟩
  have HBS := Aside0.mk hbs
  have BL := Aside0.mk (show bs.length = N by rw [← hbs]; unfold bitsOf; rw [List.length_map]; exact hN)
  rw [hbs]
  clear hr hN hbs
  go_enter Try.func20, Try.ntmps20
  go_wp2
  go_loopw [5, 6] (fun v i wr => ∃ (j : Nat) (v' : Value), v' = v ∧ j ≤ N ∧ i = .int .i64 (j : Int) ∧ Kd.R kP 29 wr w.heap.size (fun _ => True) v' (refSt bs j) ∧ Below w.heap.size w wr) (fun _ i _ => N - (intOf i).toNat)
  case atStart => exact ⟨0, _, rfl, Nat.zero_le _, rfl, Kd.R_nil _ _ _ _ _, Below.refl _ _⟩
  case round =>
    obtain ⟨j, v', rfl, hj, rfl, hR, hb⟩ := hrel
    have RR := Aside0.mk hR
    have HB := Aside0.mk hb
    clear hR hb
    by_cases hlt : j < N
    · obtain ⟨ad, y, hA, hy, hcy⟩ := flo_at (Kd.C_below HR.out HB.out) j hlt
      have BY := Aside0.mk (show bs.getD j false = decide (key edge < key y) by rw [← HBS.out, bits_at hy, bit_key])
      subst hA
      clear hy hj
      obtain ⟨t, ht⟩ : ∃ t, decide (key edge < key y) = t := ⟨_, rfl⟩
      have TT := Aside0.mk ht
      have BT := Aside0.mk (BY.out.trans ht)
      clear ht
      cases t with
      | false =>
        go_wp2_with (go_at_call 36; refine (Ahead_as _ edge y _ TT.out).mono ?_; rintro e wq ⟨rfl, rfl⟩)
        go_roundw
        case rel => exact ⟨j + 1, v', rfl, hlt, by go_num, by rw [refSt_off BT.out]; exact RR.out, HB.out⟩
        case measure =>
          simp [intOf]
          go_num
      | true =>
        obtain ⟨m, hm⟩ : ∃ m, (refSt bs j).length = m := ⟨_, rfl⟩
        obtain ⟨A3, c3, ev, hc3, hC3⟩ : ∃ A c, v' = .slice A m c ∧ m ≤ c ∧ Kd.C kP wr A m (refSt bs j) := by
          have h_ := Kd.R_reads RR.out
          rw [hm] at h_
          exact h_
        subst ev
        have C3 := Aside0.mk hC3
        have M3 := Aside0.mk hm
        clear hC3 hm
        have hmj : m ≤ j + 1 := by rw [← M3.out]; exact refSt_len bs j
        have hwm : IntKind.i64.wrap ((m : Int) - 1) = (m : Int) - 1 := IntWalk.i64_in _ (by omega)
        rcases Nat.eq_zero_or_pos m with hm0 | hm0
        · have g1 : decide ((1 : Int) ≤ (m : Int)) = false := decide_eq_false (by omega)
          have FN := Aside0.mk (refSt_new BT.out (by
            by_cases hf : 0 ≤ (runSt bs j).2
            · have h_ := (refSt_more BT.out hf).2
              have h2 := congrArg List.length h_
              rw [M3.out, hm0] at h2
              simp at h2
            · omega))
          have M0 := Aside0.mk hm0
          clear hm0
          go_wp2_with (go_at_call 36; refine (Ahead_as _ edge y _ TT.out).mono ?_; rintro e wq ⟨rfl, rfl⟩)
          refine wp_region_text (fun W => Below wr.heap.size wr W) (fun i => ([] : List Nat).contains i) (by kernel_rfl) (by kernel_rfl) ((Below.refl wr.heap.size _).drew) ?_
          have JI := Aside0.mk ((Below.refl wr.heap.size wr).drew)
          have RD := Aside0.mk (Kd.R_below RR.out (Below.refl wr.heap.size wr).drew)
          have BD := Aside0.mk (HB.out.trans (Below.refl w.heap.size wr).drew)
          generalize wr.drew = wd at JI RD BD ⊢
          repeat (first
            | ((first | refine S_off (wanted_no (b := true) rfl rfl (by rfl)) JI.out ?_ | refine S_off (wanted_no (b := false) rfl rfl (by rfl)) JI.out ?_); go_frame)
            | ((apply S_val rfl; (first | exact wanted_none rfl | exact wanted_yes rfl rfl (by kernel_rfl)); (intro W hW R hR; go_simp; exact hR)); go_frame))
          apply S_nil
          go_wp2_with ((with_reducible refine gate_dst (N := 53) rfl ?_); refine Kd.R_append kP (w0 := w) w.heap.size rfl (.tmp 49) (.tmp 52) 26 29 (.agg #[.int .i64 0, .int .i64 0]) 16 rfl Try.underlying26 info_P rfl (by decide) (by omega) _ (refSt bs j) ((j : Int), 1) [.int .i64 (j : Int), .int .i64 1] (fun _ => True) (fun _ => False) rfl rfl (kP_mk _ _ _ _ _) (fun _ hk => hk.elim) (fun _ _ => trivial) RD.out BD.out BD.out.size (by have h_ := M3.out; omega) ?_; intro v3 w3 hO hb3 hg3 hn3; have R3 := Aside0.mk hO; have B3 := Aside0.mk hb3; clear hO hb3 hg3 hn3)
          go_roundw
          case rel => exact ⟨j + 1, v3, rfl, hlt, by go_num, by rw [FN.out]; exact R3.out, B3.out⟩
          case measure =>
            simp [intOf]
            go_num
        · obtain ⟨k, hk⟩ : ∃ k, m - 1 = k := ⟨_, rfl⟩
          have ek : (m : Int) - 1 = (k : Int) := by omega
          have hkm : k < m := by omega
          have hwk : IntKind.i64.wrap (k : Int) = (k : Int) := IntWalk.i64_in _ (by omega)
          obtain ⟨g, cap, ev, _⟩ := Kd.R_form RR.out (by rw [M3.out]; exact hm0)
          rw [M3.out] at ev
          injection ev with ev1 ev2 ev3
          subst ev1 ev3
          obtain ⟨ad3, pr, hA3, hpr, x0, x1⟩ := pair_at C3.out k hkm
          obtain rfl := Option.some.inj hA3
          have hx0 : wr.cell? ⟨g, k * 2, none⟩ = some (.int .i64 pr.1) := by
            rw [← x0]; unfold Addr.add; split
            · rename_i h0; rw [h0]
            · simp
          have hx1 : wr.cell? ⟨g, k * 2 + 1, none⟩ = some (.int .i64 pr.2) := by
            rw [← x1]; unfold Addr.add
            by_cases h0 : k * 2 = 0
            · simp [h0]
            · simp [h0]
          have X0 := Aside0.mk hx0
          have X1 := Aside0.mk hx1
          have HP := Aside0.mk hpr
          have HK := Aside0.mk hk
          clear hA3 hpr x0 x1 hx0 hx1 hm0 hk
          by_cases hf : 0 ≤ (runSt bs j).2
          · obtain ⟨s1, s2⟩ := refSt_more BT.out hf
            have S1 := Aside0.mk s1
            have S2 := Aside0.mk s2
            have hlast : pr = ((runSt bs j).2, (j : Int) - (runSt bs j).2) ∧ (runSt bs j).1.length = k := by
              have h1 := HP.out
              have h2 := M3.out
              rw [S2.out] at h1 h2
              simp at h2
              have h3 : (runSt bs j).1.length = k := by have := HK.out; omega
              rw [← h3, List.getElem?_append_right (Nat.le_refl _), Nat.sub_self] at h1
              exact ⟨(Option.some.inj h1).symm, h3⟩
            have hin := runSt_in bs j
            have e5 : pr.1 + pr.2 = (j : Int) := by rw [hlast.1]; simp only; omega
            have b1 : 0 ≤ pr.1 ∧ pr.1 ≤ 60 ∧ 0 ≤ pr.2 ∧ pr.2 ≤ 60 := by rw [hlast.1]; simp only; omega
            have HLA := Aside0.mk hlast
            clear hf s1 s2 hlast hin
            obtain ⟨pa, pb⟩ := pr
            simp only at e5 b1 X0 X1 HLA
            have hwp : IntKind.i64.wrap (pb + 1) = pb + 1 := IntWalk.i64_in _ (by omega)
            have hwj : IntKind.i64.wrap (j : Int) = (j : Int) := IntWalk.i64_in _ (by omega)
            go_wp2_with (go_at_call 36; refine (Ahead_as _ edge y _ TT.out).mono ?_; rintro e wq ⟨rfl, rfl⟩)
            refine wp_region_text (fun W => Below wr.heap.size wr W) (fun i => ([] : List Nat).contains i) (by kernel_rfl) (by kernel_rfl) ((Below.refl wr.heap.size _).drew) ?_
            have JI := Aside0.mk ((Below.refl wr.heap.size wr).drew)
            have RD := Aside0.mk (Kd.R_below RR.out (Below.refl wr.heap.size wr).drew)
            have BD := Aside0.mk (HB.out.trans (Below.refl w.heap.size wr).drew)
            generalize wr.drew = wd at JI RD BD ⊢
            repeat (first
              | ((first | refine S_off (wanted_no (b := true) rfl rfl (by rfl)) JI.out ?_ | refine S_off (wanted_no (b := false) rfl rfl (by rfl)) JI.out ?_); go_frame)
              | ((apply S_val rfl; (first | exact wanted_none rfl | exact wanted_yes rfl rfl (by kernel_rfl)); (intro W hW R hR; have z0 := cell_b hW X0.out; have z1 := cell_b hW X1.out; go_simp; exact hR)); go_frame))
            apply S_nil
            obtain ⟨hR4, hbg, hfz⟩ := R_put_pair (show Kd.R kP 29 wd w.heap.size (fun _ => True) (.slice (some ⟨g, 0, none⟩) (refSt bs j).length c3) (refSt bs j) by rw [M3.out]; exact RD.out) HP.out (pb + 1)
            have hz1 := cell_b JI.out X1.out
            have es : (refSt bs j).set k (pa, pb + 1) = refSt bs (j + 1) := by
              have hla := HLA.out
              simp only [Prod.mk.injEq] at hla
              rw [S1.out, S2.out, set_at _ _ _ _ _ hla.2]
              rw [hla.1.1, hla.1.2]
            rw [M3.out, es] at hR4
            have R4 := Aside0.mk hR4
            have B4 := Aside0.mk (BD.out.setCell (p := ⟨g, k * 2 + 1, none⟩) hbg (.int .i64 (pb + 1)))
            clear hR4 hbg es
            go_wp2_with fail
            go_big_region
            all_goals go_wp2
            go_roundw
            case rel => exact ⟨j + 1, _, rfl, hlt, by go_num, Kd.R_below R4.out (Below.refl _ _).drew, B4.out.drew⟩
            case measure =>
              simp [intOf]
              go_num
          · have FN := Aside0.mk (refSt_new BT.out (by omega))
            have hq := refSt_last (bs := bs) (n := j) (by omega) (List.mem_of_getElem? HP.out)
            obtain ⟨pa, pb⟩ := pr
            simp only at hq X0 X1
            have hwp : IntKind.i64.wrap (pa + pb) = pa + pb := IntWalk.i64_in _ (by omega)
            have hne : (pa + pb == (j : Int)) = false := by rw [beq_eq_false_iff_ne]; omega
            clear hf
            go_wp2_with (go_at_call 36; refine (Ahead_as _ edge y _ TT.out).mono ?_; rintro e wq ⟨rfl, rfl⟩)
            refine wp_region_text (fun W => Below wr.heap.size wr W) (fun i => ([] : List Nat).contains i) (by kernel_rfl) (by kernel_rfl) ((Below.refl wr.heap.size _).drew) ?_
            have JI := Aside0.mk ((Below.refl wr.heap.size wr).drew)
            have RD := Aside0.mk (Kd.R_below RR.out (Below.refl wr.heap.size wr).drew)
            have BD := Aside0.mk (HB.out.trans (Below.refl w.heap.size wr).drew)
            generalize wr.drew = wd at JI RD BD ⊢
            repeat (first
              | ((first | refine S_off (wanted_no (b := true) rfl rfl (by rfl)) JI.out ?_ | refine S_off (wanted_no (b := false) rfl rfl (by rfl)) JI.out ?_); go_frame)
              | ((apply S_val rfl; (first | exact wanted_none rfl | exact wanted_yes rfl rfl (by kernel_rfl)); (intro W hW R hR; have z0 := cell_b hW X0.out; have z1 := cell_b hW X1.out; go_simp; exact hR)); go_frame))
            apply S_nil
            go_wp2_with ((with_reducible refine gate_dst (N := 53) rfl ?_); refine Kd.R_append kP (w0 := w) w.heap.size rfl (.tmp 49) (.tmp 52) 26 29 (.agg #[.int .i64 0, .int .i64 0]) 16 rfl Try.underlying26 info_P rfl (by decide) (by omega) _ (refSt bs j) ((j : Int), 1) [.int .i64 (j : Int), .int .i64 1] (fun _ => True) (fun _ => False) rfl rfl (kP_mk _ _ _ _ _) (fun _ hk => hk.elim) (fun _ _ => trivial) RD.out BD.out BD.out.size (by have h_ := M3.out; omega) ?_; intro v3 w3 hO hb3 hg3 hn3; have R3 := Aside0.mk hO; have B3 := Aside0.mk hb3; clear hO hb3 hg3 hn3)
            go_roundw
            case rel => exact ⟨j + 1, v3, rfl, hlt, by go_num, by rw [FN.out]; exact R3.out, B3.out⟩
            case measure =>
              simp [intOf]
              go_num
    · obtain rfl : j = N := by omega
      clear hj
      go_wp2
      go_returns
      exact ⟨_, rfl, by have h_ := RR.out; rw [← BL.out, refSt_end] at h_; exact h_, HB.out⟩
end Go.Proofs.Ytngncegokmppiaa.Flo
namespace Go.Proofs.Ytngncegokmppiaa.Flo
open Go Go.RowKit Go.Proofs.Ytngncegokmppiaa.Reg Go.Proofs.Ytngncegokmppiaa.Print Go.Proofs.YtngncegokmppiaaW.PrintWords Go.Proofs.YtngncegokmppiaaW.PrintLast Go.Proofs.YtngncegokmppiaaW.PrintMore
set_option linter.unusedVariables false
set_option linter.unusedSimpArgs false
theorem eqP2 (d : Nat) (w : World) (x0 y0 : Int) (x1 y1 : Int) : (Op.equalIn (d + 2) 29 (.agg #[.int .i64 x0, .int .i64 x1]) (.agg #[.int .i64 y0, .int .i64 y1])).run Try.prog w = .ok (x0 == y0 && (x1 == y1)) w := by
  refine eqR_of (is := [0, 1]) (c := 1) Try.underlying29 (by kernel_rfl) (by kernel_rfl) (by kernel_rfl) ?_
  refine eqi_cons (by go_simp; rfl) (by go_simp; rfl) (by go_simp) ?_
  exact eqi_last (by go_simp; rfl) (by go_simp; rfl) (by go_simp)
attribute [local go_sem high] eqP2
set_option maxHeartbeats 4000000 in
set_option maxRecDepth 100000 in
theorem sameP_calls {w : World} {A B : Option Addr} {c d : Nat} {l : List (Int × Int)} (n : Nat) (hl : Kd.C kP w A n l) (hk : Kd.C kP w B n l) : Calls Try.prog 19 #[.slice A n c, .slice B n d] w fun e w' => e = .returned (.bool true) ∧ Below w.heap.size w w' := by
  have HL := Aside0.mk hl
  have HK := Aside0.mk hk
  have hn63 := hl.2.1
  clear hl hk
  go_enter Try.func19, Try.ntmps19
  go_wp2
  go_loopw [5] (fun i wr => ∃ (j : Nat), j ≤ n ∧ i = .int .i64 (j : Int) ∧ Below w.heap.size w wr) (fun i _ => n - (intOf i).toNat)
  case atStart => exact ⟨0, Nat.zero_le _, rfl, Below.refl _ _⟩
  case round =>
    obtain ⟨j, hj, rfl, hb⟩ := hrel
    have HB := Aside0.mk hb
    clear hb
    by_cases hlt : j < n
    · obtain ⟨ad, p, hA, hp, x0, x1⟩ := pair_at HL.out j hlt
      obtain ⟨bd, q, hB, hq, y0, y1⟩ := pair_at HK.out j hlt
      rw [hp] at hq
      obtain rfl := Option.some.inj hq
      subst hA hB
      have X0 := Aside0.mk x0
      have X1 := Aside0.mk (show w.cell? { block := (ad.add (j * 2)).block, off := (ad.add (j * 2)).off + 1 } = _ from x1)
      have Y0 := Aside0.mk y0
      have Y1 := Aside0.mk (show w.cell? { block := (bd.add (j * 2)).block, off := (bd.add (j * 2)).off + 1 } = _ from y1)
      obtain ⟨pa, pb⟩ := p
      simp only at X0 X1 Y0 Y1
      clear hp x0 x1 y0 y1 hq
      go_wp2
      refine wp_region_text (fun W => Below w.heap.size w W) (fun i => ([] : List Nat).contains i) (by kernel_rfl) (by kernel_rfl) (HB.out.trans (Below.refl w.heap.size _).drew) ?_
      have JI := Aside0.mk (HB.out.trans (Below.refl w.heap.size wr).drew)
      generalize wr.drew = wd at JI ⊢
      repeat (first
        | ((apply S_val (v := .agg #[.int .i64 pa, .int .i64 pb]) rfl; (first | exact wanted_none rfl | exact wanted_yes rfl rfl (by kernel_rfl)); (intro W hW R hR; have z0 := cell_b hW X0.out; have z1 := cell_b hW X1.out; have z2 := cell_b hW Y0.out; have z3 := cell_b hW Y1.out; go_simp; exact hR)); go_frame)
        | ((apply S_val rfl; (first | exact wanted_none rfl | exact wanted_yes rfl rfl (by kernel_rfl)); (intro W hW R hR; go_simp; exact hR)); go_frame))
      apply S_nil
      go_wp2
      go_roundw
      case rel => exact ⟨j + 1, hlt, by go_num, JI.out⟩
      case measure =>
        simp [intOf]
        go_num
    · obtain rfl : j = n := by omega
      go_wp2
      go_ret
      exact ⟨rfl, HB.out⟩
end Go.Proofs.Ytngncegokmppiaa.Flo
