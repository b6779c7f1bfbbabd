/- Means of windows. -/
import Derived.Test.YtngncegokmppiaaFloD
namespace Go.Proofs.Ytngncegokmppiaa.Flo
open Go Go.RowKit Go.Proofs.YtngncegokmppiaaW.PrintWords Go.Proofs.YtngncegokmppiaaW.PrintLast Go.Proofs.YtngncegokmppiaaW.PrintMore
set_option linter.unusedVariables false
set_option linter.unusedSimpArgs false
theorem flo_sub {w : World} {A : Option Addr} {n : Nat} {l : List Nat} (h : Kd.C kF w A n l) (lo hi : Nat) (h1 : lo < hi) (h2 : hi ≤ n) : ∃ ad, A = some ad ∧ Kd.C kF w (some (ad.add lo)) (hi - lo) ((l.take hi).drop lo) := by
  obtain ⟨k1, k2, k3⟩ := h
  obtain ⟨ad, hA, h4⟩ := k3 (by omega)
  refine ⟨ad, hA, by rw [List.length_drop, List.length_take]; omega, by omega, fun h0 => ⟨_, rfl, fun j p hj => ?_⟩⟩
  have hj2 : l[lo + j]? = some p := by
    rw [List.getElem?_drop, List.getElem?_take] at hj
    split at hj
    · exact hj
    · cases hj
  obtain ⟨cs, e1, e2, h5⟩ := h4 (lo + j) p hj2
  refine ⟨cs, e1, e2, fun i u hu => ?_⟩
  have h6 := h5 i u hu
  have ea : (ad.add lo).add (j * kF.sz + i) = ad.add ((lo + j) * kF.sz + i) := by
    show (ad.add lo).add (j * 1 + i) = ad.add ((lo + j) * 1 + i)
    unfold Addr.add
    by_cases hl : lo = 0
    · subst hl; simp
    · by_cases hj0 : j * 1 + i = 0
      · rw [if_neg hl, if_pos hj0, if_neg (by omega), show (lo + j) * 1 + i = lo by omega]
      · rw [if_neg hl, if_neg hj0, if_neg (by omega)]
        simp
        omega
  rw [ea]
  exact h6
def meanW (cs : List (Option Nat)) (wd i : Nat) : Option Nat := fop .quo (sumC ((cs.take (i + 1)).drop (i + 1 - wd))) (cv (floatOfInt .f64 ((i + 1 - (i + 1 - wd) : Nat) : Int)))
def meansC (cs : List (Option Nat)) (wd n : Nat) : List (Option Nat) := (List.range n).map (meanW cs wd)
theorem meansC_succ (cs : List (Option Nat)) (wd n : Nat) : meansC cs wd (n + 1) = meansC cs wd n ++ [meanW cs wd n] := by
  unfold meansC
  rw [List.range_succ, List.map_append]
  rfl
theorem info_f64 : (Try.prog.info? 23).map (fun i => (i.zero, i.size, i.bytes)) = some (some (.float .f64 0), 1, 8) := by kernel_rfl
theorem meansC_len (cs : List (Option Nat)) (wd n : Nat) : (meansC cs wd n).length = n := by simp [meansC]
theorem Mean_as {w : World} {A : Option Addr} {c : Nat} {l : List Nat} (n : Nat) (hr : Kd.C kF w A n l) (hn : l.length = n) (hl : n ≤ 4096) : Calls Try.prog 38 #[.slice A n c] w fun e w' => ∃ r : Nat, e = .returned (.float .f64 r) ∧ cv r = fop .quo (sumC (l.map cv)) (cv (floatOfInt .f64 n)) ∧ Below w.heap.size w w' := by
  subst hn
  exact Mean_calls hr hl
set_option maxHeartbeats 2000000 in
set_option maxRecDepth 100000 in
theorem Means_calls {w : World} {A : Option Addr} {c : Nat} {l : List Nat} (hr : Kd.C kF w A l.length l) (hc : l.length ≤ c) (hl : l.length ≤ 4096) (wide : Int) (wd : Nat) (hw : min (max wide 1) 1000 = (wd : Int)) : Calls Try.prog 22 #[.slice A l.length c, .int .i64 wide] w fun e w' => ∃ (v : Value) (rs : List Nat), e = .returned v ∧ Kd.R kF 23 w' w.heap.size (fun _ => True) v rs ∧ rs.map cv = meansC (l.map cv) wd l.length ∧ Below w.heap.size w w' := by
  have HR := Aside0.mk hr
  have HC := Aside0.mk hc
  have h1 : 1 ≤ wd ∧ wd ≤ 1000 := by omega
  obtain ⟨m1, e5⟩ : ∃ m1 : Int, (if wide < 1 then 1 else wide) = m1 := ⟨_, rfl⟩
  have e6 : (if m1 ≤ 1000 then m1 else 1000) = (wd : Int) := by
    rw [← e5]
    split <;> split at * <;> omega
  have e7 : (if (1000 : Int) < m1 then 1000 else m1) = (wd : Int) := by
    rw [← e6]
    split <;> split <;> omega
  clear hr hw
  go_enter Try.func22, Try.ntmps22
  go_wp2
  clear e5 e6 e7
  go_loopw [5, 12] (fun v i wr => ∃ (j : Nat) (v' : Value) (rs : List Nat), v' = v ∧ j ≤ l.length ∧ i = .int .i64 (j : Int) ∧ Kd.R kF 23 wr w.heap.size (fun _ => True) v' rs ∧ rs.map cv = meansC (l.map cv) wd j ∧ Below w.heap.size w wr) (fun _ i _ => l.length - (intOf i).toNat)
  case atStart => exact ⟨0, _, [], rfl, Nat.zero_le _, rfl, Kd.R_nil _ _ _ _ _, rfl, Below.refl _ _⟩
  case round =>
    obtain ⟨j, v', rs, rfl, hj, rfl, hR, hm, hb⟩ := hrel
    have RR := Aside0.mk hR
    have MM := Aside0.mk hm
    have HB := Aside0.mk hb
    clear hR hm hb
    by_cases hlt : j < l.length
    · obtain ⟨ad, hA, hsub⟩ := flo_sub (Kd.C_below HR.out HB.out) (j + 1 - wd) (j + 1) (by omega) (by omega)
      have SUB := Aside0.mk hsub
      subst hA
      have e1 : (if (j : Int) + 1 - (wd : Int) < 0 then 0 else (j : Int) + 1 - (wd : Int)) = ((j + 1 - wd : Nat) : Int) := by split <;> omega
      have e2 : j + 1 - wd ≤ j + 1 := by omega
      have e3 : j + 1 ≤ c := by omega
      clear hsub hj
      go_wp2_with (first
        | (go_at_call 38; refine (Mean_as (j + 1 - (j + 1 - wd)) SUB.out (by rw [List.length_drop, List.length_take]; omega) (by omega)).mono ?_; rintro e w2 ⟨r, rfl, hcv, hb⟩; have C2 := Aside0.mk hcv; have B2 := Aside0.mk (HB.out.trans (hb.mono HB.out.size)); have R2 := Aside0.mk (Kd.R_below RR.out hb); clear hcv hb)
        | ((with_reducible refine gate_dst (N := 27) rfl ?_); refine Kd.R_append kF (w0 := w) w.heap.size rfl (.tmp 15) (.tmp 26) 22 23 (.float .f64 0) 8 rfl Try.underlying22 info_f64 rfl (by decide) (by omega) v' rs r [.float .f64 r] (fun _ => True) (fun _ => False) rfl rfl rfl (fun _ hk => hk.elim) (fun _ _ => trivial) R2.out B2.out B2.out.size (by have h_ := congrArg List.length MM.out; rw [List.length_map, meansC_len] at h_; omega) ?_; intro v3 w3 hO hb3 hg3 hn3; have R3 := Aside0.mk hO; have B3 := Aside0.mk hb3; clear hO hb3 hg3 hn3))
      go_roundw
      case rel =>
        refine ⟨j + 1, v3, rs ++ [r], rfl, hlt, by go_num, R3.out, ?_, B3.out⟩
        rw [List.map_append, MM.out, meansC_succ, List.map_cons, List.map_nil, C2.out]
        unfold meanW
        rw [List.map_drop, List.map_take]
      case measure =>
        simp [intOf]
        go_num
    · obtain rfl : j = l.length := by omega
      clear hj
      go_wp2
      go_ret
      exact ⟨_, rs, rfl, RR.out, MM.out, HB.out⟩
end Go.Proofs.Ytngncegokmppiaa.Flo
