/- The statements' helpers: parts of three, that a meter lives. -/
import Derived.Test.YtngncegokmppiaaFloS
import Derived.Test.YtngncegokmppiaaFloG
import Derived.Test.YtngncegokmppiaaReg
namespace Go.Proofs.Ytngncegokmppiaa.Reg
open Go
section
variable {P : Program} {ops : Array Oper} {Inv : World → Prop} {ev : Nat → Bool} {Q : Act → World → Prop}
theorem S_ev {i : Nat} {r : List Oper} {a : Act} {w w' : World} {o : Oper} {v : Value} (he : ev i = true) (hw : Region.wanted o (yielded ops a.tmps) = true) (hx : (execOp a.eval o).run P w = .ok (.value v) w') (hi : Inv w')
    (h : wpS P ops Inv ev Q r (i + 1) (a.put o.dst v) w') : wpS P ops Inv ev Q (o :: r) i a w := by
  unfold wpS
  rw [if_pos he]
  unfold opE
  rw [if_pos hw]
  unfold Oper.wp
  rw [hx]
  exact ⟨hi, hi, h⟩
end
end Go.Proofs.Ytngncegokmppiaa.Reg
namespace Go.Proofs.Ytngncegokmppiaa.Flo
open Go Go.RowKit Go.Proofs.Ytngncegokmppiaa.Reg Go.Proofs.YtngncegokmppiaaW.PrintWords Go.Proofs.YtngncegokmppiaaW.PrintLast Go.Proofs.YtngncegokmppiaaW.PrintMore
set_option linter.unusedVariables false
set_option linter.unusedSimpArgs false
theorem gSort_as {w : World} {A : Option Addr} {c : Nat} {l : List Nat} (n : Nat) (hr : Kd.C kF w A n l) (hn : l.length = n) (h0 : 0 < n) (hl : n < 20) : Calls Try.prog 31 #[.slice A n c] w fun e w' => ∃ g cap, e = .returned (.slice (some ⟨g, 0, none⟩) n cap) ∧ Kd.C kF w' (some ⟨g, 0, none⟩) n (sortF l) ∧ Below w.heap.size w w' := by
  subst hn
  exact gSort_calls hr h0 hl
set_option maxHeartbeats 2000000 in
set_option maxRecDepth 100000 in
theorem Part3_calls {w : World} {A : Option Addr} {c : Nat} {l : List Nat} (hr : Kd.C kF w A 3 l) (hl : l.length = 3) (x : Nat) (hx : (sortF l)[1]? = some x) : Calls Try.prog 12 #[.slice A 3 c, .int .i64 1, .int .i64 2] w fun e w' => e = .returned (.tuple #[.float .f64 x, .bool true]) ∧ Below w.heap.size w w' := by
  have HR := Aside0.mk hr
  have HL := Aside0.mk hl
  have HX := Aside0.mk hx
  have w2 : IntKind.i64.wrap 2 = 2 := by decide
  have w1 : IntKind.i64.wrap 1 = 1 := by decide
  have t1 : Int.tdiv 2 2 = 1 := by decide
  clear hr hl hx
  go_enter Try.func12, Try.ntmps12
  go_wp2
  refine wp_region_text (fun W => Below w.heap.size w W) (fun i => [1, 10].contains i) (by kernel_rfl) (by kernel_rfl) (Below.refl _ _).drew ?_
  have HD := Aside0.mk (Kd.C_below HR.out (Below.refl _ _).drew)
  have BD := Aside0.mk (Below.refl w.heap.size w).drew
  generalize w.drew = wd at HD BD ⊢
  repeat (first
    | ((apply S_val rfl; (first | exact wanted_none rfl | exact wanted_yes rfl rfl (by kernel_rfl)); (intro W hW R hR; go_simp; exact hR)); go_frame)
    | ((refine S_call rfl ?_ ?_ (gSort_as (c := c) 3 HD.out HL.out (by omega) (by omega)) ?_; (first | exact wanted_none rfl | exact wanted_yes rfl rfl (by kernel_rfl)); (focus (first | (go_simp; done) | (go_simp; rfl)))); rintro e wn ⟨g, cap, rfl, hC, hb⟩; have BN := Aside0.mk (BD.out.trans (hb.mono BD.out.size)); obtain ⟨ad, x', hA, hx', hcell⟩ := flo_at hC 1 (by omega); obtain rfl := Option.some.inj hA; obtain rfl : x = x' := (by { have e_ := HX.out.symm.trans hx'; exact Option.some.inj e_ }); have hc1 : wn.cell? ⟨g, 1, none⟩ = some (.float .f64 x) := (by simpa [Addr.add] using hcell); clear hC hb hA hx' hcell; refine ⟨_, rfl, BN.out, ?_⟩; go_frame)
    | ((refine S_ev (w' := wn) (v := .float .f64 x) rfl ?_ ?_ BN.out ?_; (first | exact wanted_none rfl | exact wanted_yes rfl rfl (by kernel_rfl)); (focus (first | (go_simp; done) | (go_simp; rfl)))); go_frame))
  apply S_nil
  go_wp2
  go_returns
  exact ⟨rfl, BN.out⟩
theorem early_calls (w : World) (A : Option Addr) (n c : Nat) (hn : n ≤ c) (m : Nat) (hm : min n 60 = m) : Calls Try.prog 9 #[.slice A n c] w fun e w' => e = .returned (.slice A m c) ∧ Below w.heap.size w w' := by
  have e : (min (n : Int) 60).toNat = m := by omega
  clear hm
  go_enter Try.func9, Try.ntmps9
  go_wp2
  go_ret
  exact ⟨rfl, Below.refl _ _⟩
theorem cv_back {rs bs : List Nat} (h : rs.map cv = bs.map some) : rs = bs := by
  induction rs generalizing bs with
  | nil =>
    cases bs with
    | nil => rfl
    | cons _ _ => cases h
  | cons r rs ih =>
    cases bs with
    | nil => cases h
    | cons b bs =>
      simp only [List.map_cons, List.cons.injEq] at h
      obtain ⟨h1, h2⟩ := h
      have : r = b := by
        unfold cv at h1
        split at h1
        · cases h1
        · exact Option.some.inj h1
      rw [this, ih h2]
def l135 : List Nat := [4607182418800017408, 4613937818241073152, 4617315517961601024]
def l124 : List Nat := [4607182418800017408, 4611686018427387904, 4616189618054758400]
def l914 : List Nat := [4621256167635550208, 4607182418800017408, 4616189618054758400]
theorem means135 : meansC (l135.map cv) 2 3 = l124.map some := by kernel_rfl
theorem runs124 : runsL (bitsOf l124 4609434218413702656) = [(1, 2)] := by kernel_rfl
theorem sort914 : sortF l914 = [4607182418800017408, 4616189618054758400, 4621256167635550208] := by
  unfold sortF Sort.insertionSort
  rw [show l914.length = 3 from rfl, Sort.insOuter, if_pos (by omega), Sort.insOuter, if_pos (by omega), Sort.insOuter, if_neg (by omega)]
  kernel_rfl
theorem Means_as {w : World} {A : Option Addr} {c : Nat} {l : List Nat} (n : Nat) (hr : Kd.C kF w A n l) (hn : l.length = n) (hc : n ≤ c) (hl : n ≤ 4096) (wide : Int) (wd : Nat) (hw : min (max wide 1) 1000 = (wd : Int)) : Calls Try.prog 22 #[.slice A n c, .int .i64 wide] w fun e w' => ∃ (v : Value) (rs : List Nat), e = .returned v ∧ Kd.R kF 23 w' w.heap.size (fun _ => True) v rs ∧ rs.map cv = meansC (l.map cv) wd n ∧ Below w.heap.size w w' := by
  subst hn
  exact Means_calls hr hc hl wide wd hw
theorem Runs_as {w : World} {A : Option Addr} {c : Nat} {l : List Nat} (n : Nat) (hr : Kd.C kF w A n l) (hn : l.length = n) (hl : n ≤ 4096) (edge : Nat) : Calls Try.prog 10 #[.slice A n c, .float .f64 edge] w fun e w' => ∃ v : Value, e = .returned v ∧ Kd.R kP 29 w' w.heap.size (fun _ => True) v (runsL (bitsOf l edge)) ∧ Below w.heap.size w w' := by
  subst hn
  exact Runs_calls hr hl edge
theorem R_read {w : World} {base : Nat} {ok : Nat → Prop} {v : Value} {l : List Nat} (n : Nat) (hn : l.length = n) (h0 : 0 < n) (h : Kd.R kF 23 w base ok v l) : ∃ g cap, v = .slice (some ⟨g, 0, none⟩) n cap ∧ Kd.C kF w (some ⟨g, 0, none⟩) n l ∧ n ≤ cap := by
  subst hn
  obtain ⟨A, cap, hv, hc, hC⟩ := Kd.R_reads h
  obtain ⟨g, cap', ev, _⟩ := Kd.R_form h h0
  rw [ev] at hv
  injection hv with e1 e2 e3
  subst e1 e3
  exact ⟨g, cap', ev, hC, hc⟩
theorem flo_cell {w : World} {g n : Nat} {l : List Nat} (h : Kd.C kF w (some ⟨g, 0, none⟩) n l) (i : Nat) (hi : i < n) {x : Nat} (hx : l[i]? = some x) : w.cell? ⟨g, i, none⟩ = some (.float .f64 x) := by
  obtain ⟨ad, x', hA, hx', hc⟩ := flo_at h i hi
  obtain rfl := Option.some.inj hA
  rw [hx] at hx'
  obtain rfl := Option.some.inj hx'
  rw [← hc]
  unfold Addr.add
  split
  · rename_i h0
    rw [h0]
  · simp
set_option maxHeartbeats 4000000 in
set_option maxRecDepth 100000 in
theorem lives_calls (w : World) : Calls Try.prog 8 #[] w fun e w' => e = .returned (.bool true) ∧ Below w.heap.size w w' := by
  obtain ⟨x1, hx1, q1⟩ : ∃ x1, l124[1]? = some x1 ∧ (FloatKind.f64.format.order x1 4611686018427387904 == some Ordering.eq) = true := ⟨_, rfl, by kernel_rfl⟩
  obtain ⟨x2, hx2, q2⟩ : ∃ x2, l124[2]? = some x2 ∧ (FloatKind.f64.format.order x2 4616189618054758400 == some Ordering.eq) = true := ⟨_, rfl, by kernel_rfl⟩
  obtain ⟨x8, hx8, q8⟩ : ∃ x8, (sortF l914)[1]? = some x8 ∧ (FloatKind.f64.format.order x8 4616189618054758400 == some Ordering.eq) = true := ⟨4616189618054758400, by rw [sort914]; rfl, by kernel_rfl⟩
  have H1 := Aside0.mk hx1
  have H2 := Aside0.mk hx2
  have H8 := Aside0.mk hx8
  clear hx1 hx2 hx8
  go_enter Try.func8, Try.ntmps8
  go_wp2_with (first
    | ((with_reducible refine gate_dst (N := 4) rfl ?_); refine Kd.R_lit kF _ 23 ?hg (N := 4) ?hd (xs := l135) (inner := [.float .f64 4607182418800017408, .float .f64 4613937818241073152, .float .f64 4617315517961601024]) (ok := fun _ => True) (okp := fun _ => True) ?hr ?hp (fun _ hk => hk) trivial (Below.refl _ _) (Nat.le_refl _) (by decide) ?_; (case hd => rfl); (case hg => rfl); (case hr => first | (go_simp; done) | (go_simp; rfl)); (case hp => exact (Reps.one rfl (Reps.one rfl (Reps.one rfl (Reps.none _ _))))); intro v4 w4 ho hb hg_ hnew_; obtain ⟨g4, c4, e4, hC4, hc4⟩ := R_read 3 rfl (by omega) ho; subst e4; have C4 := Aside0.mk hC4; have K4 := Aside0.mk hc4; have B4 := Aside0.mk hb; clear ho hb hg_ hnew_ hC4 hc4)
    | (go_at_call 22; refine (Means_as 3 C4.out rfl K4.out (by omega) 2 2 (by decide)).mono ?_; rintro e w5 ⟨v5, rs, rfl, hR, hm, hb⟩; obtain rfl : rs = l124 := cv_back (hm.trans means135); obtain ⟨g5, c5, e5, hC5, hc5⟩ := R_read 3 rfl (by omega) hR; subst e5; have C5 := Aside0.mk hC5; have B5 := Aside0.mk (B4.out.trans (hb.mono B4.out.size)); clear hR hm hb hC5 hc5)
    | ((with_reducible refine gate_dst (N := 7) rfl ?_); refine Kd.R_lit kF _ 23 ?hg (N := 7) ?hd (xs := l914) (inner := [.float .f64 4621256167635550208, .float .f64 4607182418800017408, .float .f64 4616189618054758400]) (ok := fun _ => True) (okp := fun _ => True) ?hr ?hp (fun _ hk => hk) trivial (Below.refl _ _) (Nat.le_refl _) (by decide) ?_; (case hd => rfl); (case hg => rfl); (case hr => first | (go_simp; done) | (go_simp; rfl)); (case hp => exact (Reps.one rfl (Reps.one rfl (Reps.one rfl (Reps.none _ _))))); intro v7 w7 ho hb hg_ hnew_; obtain ⟨g7, c7, e7, hC7, hc7⟩ := R_read 3 rfl (by omega) ho; subst e7; have C7 := Aside0.mk hC7; have C57 := Aside0.mk (Kd.C_below C5.out hb); have B7 := Aside0.mk (B5.out.trans (hb.mono B5.out.size)); clear ho hb hg_ hnew_ hC7 hc7)
    | (go_at_call 12; refine (Part3_calls C7.out rfl x8 H8.out).mono ?_; rintro e w8 ⟨rfl, hb⟩; have C8 := Aside0.mk (Kd.C_below C57.out hb); have B8 := Aside0.mk (B7.out.trans (hb.mono B7.out.size)); clear hb; have y1 : w8.cell? ⟨g5, 1, none⟩ = some (.float .f64 x1) := flo_cell C8.out 1 (by omega) H1.out; have y2 : w8.cell? ⟨g5, 2, none⟩ = some (.float .f64 x2) := flo_cell C8.out 2 (by omega) H2.out)
    | (go_at_call 10; refine (Runs_as 3 C8.out rfl (by omega) _).mono ?_; rintro e w9 ⟨v9, rfl, hR, hb⟩; generalize hrl : runsL (bitsOf l124 _) = rr at hR; have hlen : rr.length = 1 := (by rw [← hrl]; kernel_rfl); clear hrl; obtain ⟨A9, c9, e9⟩ := Kd.R_slice hR; rw [hlen] at e9; subst e9; have B9 := Aside0.mk (B8.out.trans (hb.mono B8.out.size)); clear hR hb hlen))
  go_ret
  exact ⟨rfl, B9.out⟩
end Go.Proofs.Ytngncegokmppiaa.Flo
