/- Parts, the least, the greatest. -/
import Derived.Test.YtngncegokmppiaaSymG
namespace Go.Proofs.Ytngncegokmppiaa.Reg
open Go
section
variable {P : Program}
/-- A call of these arguments: a cheap look. -/
theorem gate_call {f : FuncId} {args args0 : Array Value} {w : World} {R : Ending → World → Prop} (_h : args = args0) (k : Calls P f args w R) : Calls P f args w R := k
end
end Go.Proofs.Ytngncegokmppiaa.Reg
namespace Go.Proofs.Ytngncegokmppiaa.Flo
open Go Go.RowKit Go.Proofs.Ytngncegokmppiaa.Reg Go.Proofs.YtngncegokmppiaaW.PrintWords Go.Proofs.YtngncegokmppiaaW.PrintLast Go.Proofs.YtngncegokmppiaaW.PrintMore
set_option linter.unusedVariables false
set_option linter.unusedSimpArgs false
set_option maxHeartbeats 2000000 in
set_option maxRecDepth 100000 in
theorem Part60 {w : World} {A : Option Addr} {c : Nat} {l : List Nat} (N : Nat) (hr : Kd.C kF w A N l) (hN : l.length = N) (h0 : 0 < N) (hl : N ≤ 60) (nu de q : Nat) (h1 : 1 ≤ de) (h2 : de ≤ 1000) (h3 : nu ≤ de) (hq : nu * (N - 1) / de = q) :
    Calls Try.prog 12 #[.slice A N c, .int .i64 nu, .int .i64 de] w fun e w' => ∃ x Z, e = .returned (.tuple #[.float .f64 x, .bool true]) ∧ Srt Z ∧ Z.Perm l ∧ Z[q]? = some x ∧ Below w.heap.size w w' := by
  have HR := Aside0.mk hr
  have HL := Aside0.mk hN
  obtain ⟨n1, hn1⟩ : ∃ n1, N - 1 = n1 := ⟨_, rfl⟩
  obtain ⟨p, hp⟩ : ∃ p, nu * n1 = p := ⟨_, rfl⟩
  have hpb : p ≤ 60 * de := by
    rw [← hp]
    have a1 : nu * n1 ≤ de * n1 := Nat.mul_le_mul_right _ h3
    have a2 : de * n1 ≤ de * 60 := Nat.mul_le_mul_left _ (by omega)
    omega
  have hqN : q < N := by
    rw [← hq, hn1, hp]
    refine Nat.div_lt_of_lt_mul ?_
    rw [← hp]
    have a1 : nu * n1 ≤ de * n1 := Nat.mul_le_mul_right _ h3
    have a2 : de * n1 < de * N := Nat.mul_lt_mul_of_pos_left (by omega) (by omega)
    omega
  have e1 : (N : Int) - 1 = (n1 : Int) := by omega
  have e2 : (nu : Int) * (n1 : Int) = (p : Int) := by rw [← hp]; exact (Int.natCast_mul nu n1).symm
  have hdq : p / de = q := by rw [← hp, ← hn1]; exact hq
  have e3 : Int.tdiv (p : Int) (de : Int) = (q : Int) := by rw [← hdq]; rfl
  have e4 : (p : Int) / (de : Int) = (q : Int) := by rw [← hdq]; rfl
  have w0 : IntKind.i64.wrap (n1 : Int) = (n1 : Int) := IntWalk.i64_in _ (by omega)
  have w1 : IntKind.i64.wrap (p : Int) = (p : Int) := IntWalk.i64_in _ (by omega)
  have w2 : IntKind.i64.wrap (q : Int) = (q : Int) := IntWalk.i64_in _ (by omega)
  have g1 : ((N : Int) == 0) = false := by rw [beq_eq_false_iff_ne]; omega
  have g2 : decide ((de : Int) < 1) = false := decide_eq_false (by omega)
  have g3 : decide ((1000 : Int) < (de : Int)) = false := decide_eq_false (by omega)
  have g4 : decide ((nu : Int) < 0) = false := decide_eq_false (by omega)
  have g5 : decide ((de : Int) < (nu : Int)) = false := decide_eq_false (by omega)
  have hde : ((de : Int) == 0) = false := by rw [beq_eq_false_iff_ne]; omega
  have hde' : ((de : Int) = 0) = False := eq_false (by omega)
  have hdn : (de = 0) = False := eq_false (by omega)
  have hdm : ((de : Int) == -1) = false := by rw [beq_eq_false_iff_ne]; omega
  clear hr hN hn1 hp hq hdq hpb
  go_enter Try.func12, Try.ntmps12
  go_wp2
  refine wp_region_text (fun W => Below w.heap.size w W) (fun i => [1, 10].contains i) (by kernel_rfl) (by kernel_rfl) (Below.refl _ _).drew ?_
  have HD := Aside0.mk (Kd.C_below HR.out (Below.refl _ _).drew)
  have BD := Aside0.mk (Below.refl w.heap.size w).drew
  generalize w.drew = wd at HD BD ⊢
  repeat (first
    | ((apply S_val rfl; (first | exact wanted_none rfl | exact wanted_yes rfl rfl (by kernel_rfl)); (intro W hW R hR; go_simp; exact hR)); go_frame)
    | ((refine S_call rfl ?_ ?_ (gSort60 (c := c) N HD.out HL.out h0 hl) ?_; (first | exact wanted_none rfl | exact wanted_yes rfl rfl (by kernel_rfl)); (focus (first | (go_simp; done) | (go_simp; rfl)))); rintro e wn ⟨g, cap, Z, rfl, z1, z2, hC, hb⟩; have BN := Aside0.mk (BD.out.trans (hb.mono BD.out.size)); have Z1 := Aside0.mk z1; have Z2 := Aside0.mk z2; obtain ⟨ad, x, hA, hx, hcell⟩ := flo_at hC q hqN; have HX := Aside0.mk hx; have hc1 := flo_cell hC q hqN hx; clear hC hb hA hx hcell z1 z2; refine ⟨_, rfl, BN.out, ?_⟩; go_frame)
    | ((refine S_ev (w' := wn) (v := .float .f64 x) rfl ?_ ?_ BN.out ?_; (first | exact wanted_none rfl | exact wanted_yes rfl rfl (by kernel_rfl)); (focus (first | (go_simp; done) | (go_simp; rfl)))); go_frame))
  apply S_nil
  go_wp2
  go_returns
  exact ⟨x, Z, rfl, Z1.out, Z2.out, HX.out, BN.out⟩
theorem Part_as {w : World} {A : Option Addr} {c : Nat} {l : List Nat} (N : Nat) (hr : Kd.C kF w A N l) (hN : l.length = N) (h0 : 0 < N) (hl : N ≤ 60) (num den : Int) (nu de q : Nat) (hnu : (nu : Int) = num) (hde : (de : Int) = den) (h1 : 1 ≤ de) (h2 : de ≤ 1000) (h3 : nu ≤ de) (hq : nu * (N - 1) / de = q) :
    Calls Try.prog 12 #[.slice A N c, .int .i64 num, .int .i64 den] w fun e w' => ∃ x Z, e = .returned (.tuple #[.float .f64 x, .bool true]) ∧ Srt Z ∧ Z.Perm l ∧ Z[q]? = some x ∧ Below w.heap.size w w' := by
  subst hnu hde
  exact Part60 N hr hN h0 hl nu de q h1 h2 h3 hq
set_option maxHeartbeats 2000000 in
theorem Part_none (w : World) (A : Option Addr) (c N : Nat) (num den : Int) (h : N = 0 ∨ den < 1 ∨ 1000 < den ∨ num < 0 ∨ den < num) :
    Calls Try.prog 12 #[.slice A N c, .int .i64 num, .int .i64 den] w fun e w' => e = .returned (.tuple #[.float .f64 0, .bool false]) ∧ Below w.heap.size w w' := by
  by_cases h1 : N = 0
  · have g1 : ((N : Int) == 0) = true := by rw [beq_iff_eq]; omega
    go_enter Try.func12, Try.ntmps12
    go_wp2
    go_returns
    exact ⟨rfl, Below.refl _ _⟩
  have g1 : ((N : Int) == 0) = false := by rw [beq_eq_false_iff_ne]; omega
  by_cases h2 : den < 1
  · have g2 : decide (den < 1) = true := decide_eq_true h2
    go_enter Try.func12, Try.ntmps12
    go_wp2
    go_returns
    exact ⟨rfl, Below.refl _ _⟩
  have g2 : decide (den < 1) = false := decide_eq_false h2
  by_cases h3 : 1000 < den
  · have g3 : decide (1000 < den) = true := decide_eq_true h3
    go_enter Try.func12, Try.ntmps12
    go_wp2
    go_returns
    exact ⟨rfl, Below.refl _ _⟩
  have g3 : decide (1000 < den) = false := decide_eq_false h3
  by_cases h4 : num < 0
  · have g4 : decide (num < 0) = true := decide_eq_true h4
    go_enter Try.func12, Try.ntmps12
    go_wp2
    go_returns
    exact ⟨rfl, Below.refl _ _⟩
  have g4 : decide (num < 0) = false := decide_eq_false h4
  have h5 : den < num := by omega
  have g5 : decide (den < num) = true := decide_eq_true h5
  go_enter Try.func12, Try.ntmps12
  go_wp2
  go_returns
  exact ⟨rfl, Below.refl _ _⟩
theorem bey_new {s : Int} (hs : s = -1 ∨ s = 1) {x y : Nat} (h : cmpF y x = s) : 0 ≤ s * (key y - key x) := by
  rcases hs with rfl | rfl
  · have := (cmpF_neg y x).1 (by omega); omega
  · have := (cmpF_pos y x).1 (by omega); omega
theorem bey_old {s : Int} (hs : s = -1 ∨ s = 1) {x y : Nat} (h : cmpF y x ≠ s) : 0 ≤ s * (key x - key y) := by
  have h1 := cmpF_key y x
  rcases hs with rfl | rfl
  · by_cases hk : key y < key x
    · rw [if_pos hk] at h1; exact absurd h1 h
    · omega
  · by_cases hk : key x < key y
    · rw [if_neg (by omega), if_pos hk] at h1; exact absurd h1 h
    · omega
theorem bey_trans {s : Int} (hs : s = -1 ∨ s = 1) {a b c : Int} (h1 : 0 ≤ s * (a - b)) (h2 : 0 ≤ s * (b - c)) : 0 ≤ s * (a - c) := by
  rcases hs with rfl | rfl <;> omega
set_option maxHeartbeats 2000000 in
theorem extreme_calls {w : World} {A : Option Addr} {c : Nat} {l : List Nat} (N : Nat) (hr : Kd.C kF w A N l) (hN : l.length = N) (h0 : 0 < N) (hl : N ≤ 4096) (s : Int) (hs : s = -1 ∨ s = 1) :
    Calls Try.prog 32 #[.slice A N c, .int .i64 s] w fun e w' => ∃ x, e = .returned (.tuple #[.float .f64 x, .bool true]) ∧ x ∈ l ∧ (∀ y ∈ l, 0 ≤ s * (key x - key y)) ∧ Below w.heap.size w w' := by
  have HR := Aside0.mk hr
  have HL := Aside0.mk hN
  have HS := Aside0.mk hs
  clear hr hN hs
  go_enter Try.func32, Try.ntmps32
  go_wp2
  go_loopw [6, 7, 12] (fun b t i wr => ∃ (j x : Nat), j ≤ N ∧ i = .int .i64 (j : Int) ∧ b = .float .f64 x ∧ t = .bool (decide (0 < j)) ∧ (0 < j → x ∈ l.take j ∧ ∀ y ∈ l.take j, 0 ≤ s * (key x - key y)) ∧ Below w.heap.size w wr) (fun _ _ i _ => N - (intOf i).toNat)
  case atStart => exact ⟨0, 0, Nat.zero_le _, rfl, rfl, rfl, fun h => absurd h (Nat.lt_irrefl 0), Below.refl _ _⟩
  case round =>
    obtain ⟨j, x, hj, rfl, rfl, rfl, hx, hb⟩ := hrel
    have HX := Aside0.mk hx
    have HB := Aside0.mk hb
    clear hx hb
    by_cases hlt : j < N
    · obtain ⟨ad, y, hA, hy, hcy⟩ := flo_at (Kd.C_below HR.out HB.out) j hlt
      have HY := Aside0.mk hy
      have TK := Aside0.mk (show l.take (j + 1) = l.take j ++ [y] by rw [List.take_add_one, hy]; rfl)
      subst hA
      clear hy
      rcases Nat.eq_zero_or_pos j with hj0 | hj0
      · have hd : decide (0 < j) = false := decide_eq_false (by omega)
        have HJ := Aside0.mk hj0
        clear hj0
        go_wp2
        go_roundw
        case rel =>
          have hj0 := HJ.out
          subst hj0
          refine ⟨1, y, hlt, by go_num, rfl, by simp, fun _ => ?_, HB.out⟩
          rw [TK.out]
          refine ⟨by simp, fun z hz => ?_⟩
          simp at hz
          rw [hz, Int.sub_self, Int.mul_zero]
          exact Int.le_refl _
        case measure =>
          simp [intOf]
          go_num
      · have hd : decide (0 < j) = true := decide_eq_true hj0
        obtain ⟨cc, hcc⟩ : ∃ cc, cmpF y x = cc := ⟨_, rfl⟩
        have CC := Aside0.mk hcc
        clear hcc
        obtain ⟨hx1, hx2⟩ := HX.out hj0
        have X1 := Aside0.mk hx1
        have X2 := Aside0.mk hx2
        have J0 := Aside0.mk hj0
        clear hx1 hx2 HX hj0
        cases hq : (cc == s) with
        | true =>
          have BN := Aside0.mk (bey_new HS.out (CC.out.trans (by simpa using hq)))
          go_wp2_with (go_at_call 11; refine (gCmp_as _ y x cc CC.out).mono ?_; rintro e w2 ⟨rfl, rfl⟩)
          go_roundw
          case rel =>
            refine ⟨j + 1, y, hlt, by go_num, rfl, by simp, fun _ => ?_, HB.out⟩
            rw [TK.out]
            refine ⟨by simp, fun z hz => ?_⟩
            rcases List.mem_append.1 hz with hz | hz
            · exact bey_trans HS.out BN.out (X2.out z hz)
            · simp at hz
              rw [hz, Int.sub_self, Int.mul_zero]
              exact Int.le_refl _
          case measure =>
            simp [intOf]
            go_num
        | false =>
          have BO := Aside0.mk (bey_old HS.out (show cmpF y x ≠ s by rw [CC.out]; simpa using hq))
          go_wp2_with (go_at_call 11; refine (gCmp_as _ y x cc CC.out).mono ?_; rintro e w2 ⟨rfl, rfl⟩)
          go_roundw
          case rel =>
            refine ⟨j + 1, x, hlt, by go_num, rfl, by rw [decide_eq_true (show 0 < j + 1 by omega)], fun _ => ?_, HB.out⟩
            rw [TK.out]
            refine ⟨List.mem_append_left _ X1.out, fun z hz => ?_⟩
            rcases List.mem_append.1 hz with hz | hz
            · exact X2.out z hz
            · simp at hz
              rw [hz]
              exact BO.out
          case measure =>
            simp [intOf]
            go_num
    · obtain rfl : j = N := by omega
      have hd : decide (0 < j) = true := decide_eq_true h0
      clear hj
      go_wp2
      go_returns
      obtain ⟨x1, x2⟩ := HX.out h0
      rw [List.take_of_length_le (by have := HL.out; omega)] at x1 x2
      exact ⟨x, by show Ending.returned (Value.tuple #[.float .f64 x, .bool (decide (0 < j))]) = _; rw [hd], x1, x2, HB.out⟩
theorem Least_calls {w : World} {A : Option Addr} {c : Nat} {l : List Nat} (N : Nat) (hr : Kd.C kF w A N l) (hN : l.length = N) (h0 : 0 < N) (hl : N ≤ 4096) :
    Calls Try.prog 13 #[.slice A N c] w fun e w' => ∃ x, e = .returned (.tuple #[.float .f64 x, .bool true]) ∧ x ∈ l ∧ (∀ y ∈ l, key x ≤ key y) ∧ Below w.heap.size w w' := by
  have HI := Aside0.mk (extreme_calls (c := c) N hr hN h0 hl (-1) (.inl rfl))
  clear hr
  go_enter Try.func13, Try.ntmps13
  go_wp2_with (go_at_call 32; refine HI.out.mono ?_; rintro e w1 ⟨x, rfl, h1, h2, hb⟩; have X1 := Aside0.mk h1; have X2 := Aside0.mk h2; have B1 := Aside0.mk hb; clear h1 h2 hb)
  go_returns
  exact ⟨x, rfl, X1.out, fun y hy => by have := X2.out y hy; omega, B1.out⟩
theorem Greatest_calls {w : World} {A : Option Addr} {c : Nat} {l : List Nat} (N : Nat) (hr : Kd.C kF w A N l) (hN : l.length = N) (h0 : 0 < N) (hl : N ≤ 4096) :
    Calls Try.prog 14 #[.slice A N c] w fun e w' => ∃ x, e = .returned (.tuple #[.float .f64 x, .bool true]) ∧ x ∈ l ∧ (∀ y ∈ l, key y ≤ key x) ∧ Below w.heap.size w w' := by
  have HI := Aside0.mk (extreme_calls (c := c) N hr hN h0 hl 1 (.inr rfl))
  clear hr
  go_enter Try.func14, Try.ntmps14
  go_wp2_with (go_at_call 32; refine HI.out.mono ?_; rintro e w1 ⟨x, rfl, h1, h2, hb⟩; have X1 := Aside0.mk h1; have X2 := Aside0.mk h2; have B1 := Aside0.mk hb; clear h1 h2 hb)
  go_returns
  exact ⟨x, rfl, X1.out, fun y hy => by have := X2.out y hy; omega, B1.out⟩
end Go.Proofs.Ytngncegokmppiaa.Flo
