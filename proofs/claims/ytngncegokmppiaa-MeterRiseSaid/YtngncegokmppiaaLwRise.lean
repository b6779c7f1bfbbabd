/- Parts rise. -/
import Derived.Test.YtngncegokmppiaaLwMeans
import Derived.Test.YtngncegokmppiaaFloX
namespace Go.Proofs.Ytngncegokmppiaa.Flo
open Go Go.RowKit Go.Proofs.Ytngncegokmppiaa.Reg Go.Proofs.YtngncegokmppiaaW.PrintWords Go.Proofs.YtngncegokmppiaaW.PrintLast Go.Proofs.YtngncegokmppiaaW.PrintMore
set_option linter.unusedVariables false
set_option linter.unusedSimpArgs false
theorem srt_le {Z Z' : List Nat} (hz : Srt Z) (hz' : Srt Z') (hp : Z.Perm Z') {i j x y : Nat} (hx : Z[i]? = some x) (hy : Z'[j]? = some y) (hij : i ≤ j) : key x ≤ key y := by
  have e := srt_uniq hz hz' hp
  have h1 : (Z'.map key)[i]? = some (key x) := by rw [← e, List.getElem?_map, hx]; rfl
  rw [List.getElem?_map] at h1
  obtain ⟨x', hx', hk⟩ := Option.map_eq_some_iff.1 h1
  rw [← hk]
  rcases Nat.lt_or_eq_of_le hij with h | h
  · unfold Srt at hz'
    rw [List.pairwise_iff_getElem] at hz'
    obtain ⟨l1, e1⟩ := List.getElem?_eq_some_iff.1 hx'
    obtain ⟨l2, e2⟩ := List.getElem?_eq_some_iff.1 hy
    have := hz' i j l1 l2 h
    rw [e1, e2] at this
    exact this
  · subst h
    rw [hx'] at hy
    rw [Option.some.inj hy]
    exact Int.le_refl _
theorem srt_first_le {Z : List Nat} (hz : Srt Z) {x : Nat} (hx : Z[0]? = some x) : ∀ y ∈ Z, key x ≤ key y := by
  intro y hy
  obtain ⟨j, hj, rfl⟩ := List.getElem_of_mem hy
  exact srt_le hz hz (List.Perm.refl _) hx (List.getElem?_eq_getElem hj) (Nat.zero_le _)
theorem srt_last_le {Z : List Nat} (hz : Srt Z) {n x : Nat} (hn : Z.length = n + 1) (hx : Z[n]? = some x) : ∀ y ∈ Z, key y ≤ key x := by
  intro y hy
  obtain ⟨j, hj, rfl⟩ := List.getElem_of_mem hy
  exact srt_le hz hz (List.Perm.refl _) (List.getElem?_eq_getElem hj) hx (by omega)
set_option maxHeartbeats 4000000 in
set_option maxRecDepth 100000 in
theorem MeterRise_calls (w : World) (A0 : Option Addr) (c0 : Nat) (l : List Nat) (a0 b0 : Int) (hr : Kd.C kF w A0 l.length l) (hc : l.length ≤ c0) : Calls Try.prog 4 #[.slice A0 l.length c0, .int .i64 a0, .int .i64 b0] w fun e w' => e = .returned (.bool true) ∧ Below w.heap.size w w' := by
  obtain ⟨m, hm⟩ : ∃ m, min l.length 60 = m := ⟨_, rfl⟩
  have hm60 : m ≤ 60 := by omega
  have CT := Aside0.mk (flo_take hr m (by omega))
  have TL := Aside0.mk (show (l.take m).length = m by rw [List.length_take]; omega)
  have HC := Aside0.mk hc
  have HM := Aside0.mk hm
  have MC := Aside0.mk (show m ≤ c0 by omega)
  have sm : ∀ x : Int, ∃ n : Nat, wrap64 ((IntKind.u64.wrap x).tmod 101) = (n : Int) ∧ n ≤ 100 := by
    intro x
    have hu0 : 0 ≤ IntKind.u64.wrap x := by unfold IntKind.wrap; simp [IntKind.signed, IntKind.bits]; omega
    have hu1 := Int.tmod_nonneg 101 hu0
    have hu2 := Int.tmod_lt_of_pos (IntKind.u64.wrap x) (show (0 : Int) < 101 by decide)
    refine ⟨((IntKind.u64.wrap x).tmod 101).toNat, ?_, by omega⟩
    unfold wrap64
    omega
  obtain ⟨na, ea, ha⟩ := sm a0
  obtain ⟨nb, eb, hb⟩ := sm b0
  obtain ⟨lo, hlo⟩ : ∃ lo : Nat, min na nb = lo := ⟨_, rfl⟩
  obtain ⟨hi, hhi⟩ : ∃ hi : Nat, max na nb = hi := ⟨_, rfl⟩
  have elo : min (na : Int) (nb : Int) = (lo : Int) := by omega
  have ehi : max (na : Int) (nb : Int) = (hi : Int) := by omega
  have hlh : lo ≤ hi ∧ hi ≤ 100 := by omega
  have hqq : lo * (m - 1) / 100 ≤ hi * (m - 1) / 100 := Nat.div_le_div_right (Nat.mul_le_mul_right _ hlh.1)
  clear hr hc hm sm hlo hhi
  by_cases hm0 : 0 < m
  · have g0 : ((m : Int) == 0) = false := by rw [beq_eq_false_iff_ne]; omega
    go_enter Try.func4, Try.ntmps4
    go_wp2_with (first
      | (go_at_call 11; (with_reducible refine gate_call (args0 := #[.float .f64 x6, .float .f64 x8]) rfl ?_); refine (gCmp_as _ x6 x8 0 ((cmpF_nul _ _).2 K3.out)).mono ?_; rintro e wq ⟨rfl, rfl⟩)
      | (go_at_call 11; (with_reducible refine gate_call (args0 := #[.float .f64 x5, .float .f64 x7]) rfl ?_); refine (gCmp_as _ x5 x7 0 ((cmpF_nul _ _).2 K2.out)).mono ?_; rintro e wq ⟨rfl, rfl⟩)
      | (go_at_call 11; (with_reducible refine gate_call (args0 := #[.float .f64 x3, .float .f64 x4]) rfl ?_); obtain ⟨c1, e1, h1, h1'⟩ : ∃ c, cmpF x3 x4 = c ∧ decide (c ≤ 0) = true ∧ c ≤ 0 := ⟨_, rfl, decide_eq_true (Int.not_lt.1 (fun h => by have := (cmpF_pos _ _).1 h; have := K1.out; omega)), Int.not_lt.1 (fun h => by have := (cmpF_pos _ _).1 h; have := K1.out; omega)⟩; refine (gCmp_as _ x3 x4 c1 e1).mono ?_; rintro e wq ⟨rfl, rfl⟩)
      | (go_at_call 14; refine (Greatest_calls m (Kd.C_below CT.out B7.out) TL.out hm0 (by omega)).mono ?_; rintro e w8 ⟨x8, rfl, z1, z2, hb⟩; have G1 := Aside0.mk z1; have G2 := Aside0.mk z2; have B8 := Aside0.mk (B7.out.trans (hb.mono B7.out.size)); clear hb z1 z2; have K1 := Aside0.mk (srt_le S3.out S4.out (P3.out.trans P4.out.symm) X3.out X4.out hqq); have K2 := Aside0.mk (show key x5 = key x7 from Int.le_antisymm (srt_first_le S5.out X5.out _ (P5.out.mem_iff.2 L1.out)) (L2.out _ (P5.out.mem_iff.1 (List.mem_of_getElem? X5.out)))); have K3 := Aside0.mk (show key x6 = key x8 from Int.le_antisymm (G2.out _ (P6.out.mem_iff.1 (List.mem_of_getElem? X6.out))) (srt_last_le S6.out (by rw [P6.out.length_eq, TL.out]; omega) X6.out _ (P6.out.mem_iff.2 G1.out))))
      | (go_at_call 13; refine (Least_calls m (Kd.C_below CT.out B6.out) TL.out hm0 (by omega)).mono ?_; rintro e w7 ⟨x7, rfl, z1, z2, hb⟩; have L1 := Aside0.mk z1; have L2 := Aside0.mk z2; have B7 := Aside0.mk (B6.out.trans (hb.mono B6.out.size)); clear hb z1 z2)
      | (go_at_call 12; (with_reducible refine gate_call (args0 := #[_, .int .i64 7, .int .i64 7]) rfl ?_); refine (Part_as m (Kd.C_below CT.out B5.out) TL.out hm0 hm60 7 7 7 7 (m - 1) rfl rfl (by omega) (by omega) (by omega) (Nat.mul_div_cancel_left _ (by omega))).mono ?_; rintro e w6 ⟨x6, Z6, rfl, z1, z2, z3, hb⟩; have S6 := Aside0.mk z1; have P6 := Aside0.mk z2; have X6 := Aside0.mk z3; have B6 := Aside0.mk (B5.out.trans (hb.mono B5.out.size)); clear hb z1 z2 z3)
      | (go_at_call 12; (with_reducible refine gate_call (args0 := #[_, .int .i64 0, .int .i64 7]) rfl ?_); refine (Part_as m (Kd.C_below CT.out B4.out) TL.out hm0 hm60 0 7 0 7 0 rfl rfl (by omega) (by omega) (by omega) (by rw [Nat.zero_mul])).mono ?_; rintro e w5 ⟨x5, Z5, rfl, z1, z2, z3, hb⟩; have S5 := Aside0.mk z1; have P5 := Aside0.mk z2; have X5 := Aside0.mk z3; have B5 := Aside0.mk (B4.out.trans (hb.mono B4.out.size)); clear hb z1 z2 z3)
      | (go_at_call 12; (with_reducible refine gate_call (args0 := #[_, .int .i64 (hi : Int), .int .i64 100]) rfl ?_); refine (Part_as m (Kd.C_below CT.out B3.out) TL.out hm0 hm60 hi 100 hi 100 _ rfl rfl (by omega) (by omega) (by omega) rfl).mono ?_; rintro e w4 ⟨x4, Z4, rfl, z1, z2, z3, hb⟩; have S4 := Aside0.mk z1; have P4 := Aside0.mk z2; have X4 := Aside0.mk z3; have B4 := Aside0.mk (B3.out.trans (hb.mono B3.out.size)); clear hb z1 z2 z3)
      | (go_at_call 12; (with_reducible refine gate_call (args0 := #[_, .int .i64 (lo : Int), .int .i64 100]) rfl ?_); refine (Part_as m (Kd.C_below CT.out B2.out) TL.out hm0 hm60 lo 100 lo 100 _ rfl rfl (by omega) (by omega) (by omega) rfl).mono ?_; rintro e w3 ⟨x3, Z3, rfl, z1, z2, z3, hb⟩; have S3 := Aside0.mk z1; have P3 := Aside0.mk z2; have X3 := Aside0.mk z3; have B3 := Aside0.mk (B2.out.trans (hb.mono B2.out.size)); clear hb z1 z2 z3)
      | (go_at_call 8; refine (lives_calls _).mono ?_; rintro e w1 ⟨rfl, hb⟩; have B1 := Aside0.mk hb; clear hb)
      | (go_at_call 9; refine (early_calls _ A0 l.length c0 HC.out m HM.out).mono ?_; rintro e w2 ⟨rfl, hb⟩; have B2 := Aside0.mk (B1.out.trans (hb.mono B1.out.size)); clear hb))
    go_ret
    exact ⟨rfl, B8.out⟩
  · obtain rfl : m = 0 := by omega
    go_enter Try.func4, Try.ntmps4
    go_wp2_with (first
      | (go_at_call 12; (with_reducible refine gate_call (args0 := #[_, .int .i64 7, .int .i64 7]) rfl ?_); refine (Part_none _ _ _ 0 7 7 (.inl rfl)).mono ?_; rintro e w6 ⟨rfl, hb⟩; have B6 := Aside0.mk (B5.out.trans (hb.mono B5.out.size)); clear hb)
      | (go_at_call 12; (with_reducible refine gate_call (args0 := #[_, .int .i64 0, .int .i64 7]) rfl ?_); refine (Part_none _ _ _ 0 0 7 (.inl rfl)).mono ?_; rintro e w5 ⟨rfl, hb⟩; have B5 := Aside0.mk (B4.out.trans (hb.mono B4.out.size)); clear hb)
      | (go_at_call 12; (with_reducible refine gate_call (args0 := #[_, .int .i64 (hi : Int), .int .i64 100]) rfl ?_); refine (Part_none _ _ _ 0 hi 100 (.inl rfl)).mono ?_; rintro e w4 ⟨rfl, hb⟩; have B4 := Aside0.mk (B3.out.trans (hb.mono B3.out.size)); clear hb)
      | (go_at_call 12; (with_reducible refine gate_call (args0 := #[_, .int .i64 (lo : Int), .int .i64 100]) rfl ?_); refine (Part_none _ _ _ 0 lo 100 (.inl rfl)).mono ?_; rintro e w3 ⟨rfl, hb⟩; have B3 := Aside0.mk (B2.out.trans (hb.mono B2.out.size)); clear hb)
      | (go_at_call 8; refine (lives_calls _).mono ?_; rintro e w1 ⟨rfl, hb⟩; have B1 := Aside0.mk hb; clear hb)
      | (go_at_call 9; refine (early_calls _ A0 l.length c0 HC.out 0 HM.out).mono ?_; rintro e w2 ⟨rfl, hb⟩; have B2 := Aside0.mk (B1.out.trans (hb.mono B1.out.size)); clear hb))
    go_ret
    exact ⟨rfl, B6.out⟩
end Go.Proofs.Ytngncegokmppiaa.Flo
