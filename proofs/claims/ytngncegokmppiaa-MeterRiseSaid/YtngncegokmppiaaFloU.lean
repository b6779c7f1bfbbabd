/- What follows slowly. -/
import Derived.Test.YtngncegokmppiaaFloQ
namespace Go.Proofs.Ytngncegokmppiaa.Flo
open Go Go.RowKit Go.Proofs.Ytngncegokmppiaa.Reg Go.Proofs.YtngncegokmppiaaW.PrintWords Go.Proofs.YtngncegokmppiaaW.PrintLast Go.Proofs.YtngncegokmppiaaW.PrintMore
set_option linter.unusedVariables false
set_option linter.unusedSimpArgs false
set_option maxHeartbeats 2000000 in
set_option maxRecDepth 100000 in
theorem Smooth_as {w : World} {A : Option Addr} {c : Nat} {l : List Nat} (n : Nat) (hr : Kd.C kF w A n l) (hn : l.length = n) (hc : n ≤ c) (hl : n ≤ 4096) (keep : Nat) : Calls Try.prog 26 #[.slice A n c, .float .f64 keep] w fun e w' => ∃ (v : Value) (rs : List Nat), e = .returned v ∧ Kd.R kF 23 w' w.heap.size (fun _ => True) v rs ∧ rs.map cv = smoothC (cv keep) (l.map cv) n ∧ Below w.heap.size w w' := by
  have HR := Aside0.mk hr
  have HN := Aside0.mk hn
  clear hr hn
  go_enter Try.func26, Try.ntmps26
  go_wp2_with (first
    | ((with_reducible refine gate_dst (N := 12) rfl ?_); refine fop_event rfl (N := 12) rfl rfl (.inr (.inl rfl)) rfl rfl ?_; intro rr w0 hcv hb2 hw2; have CR := Aside0.mk hcv; have B0 := Aside0.mk hb2; clear hcv hb2 hw2))
  have HR0 := Aside0.mk (Kd.C_below HR.out B0.out)
  go_loopw [5, 15] (fun v i wr => ∃ (j : Nat) (v' : Value) (rs : List Nat), v' = v ∧ j ≤ n ∧ i = .int .i64 (j : Int) ∧ Kd.R kF 23 wr w.heap.size (fun _ => True) v' rs ∧ rs.map cv = smoothC (cv keep) (l.map cv) j ∧ Below w.heap.size w wr) (fun _ i _ => n - (intOf i).toNat)
  case atStart => exact ⟨0, _, [], rfl, Nat.zero_le _, rfl, Kd.R_nil _ _ _ _ _, rfl, B0.out⟩
  case round =>
    obtain ⟨j, v', rs, rfl, hj, rfl, hR, hm, hb⟩ := hrel
    have RR := Aside0.mk hR
    have MM := Aside0.mk hm
    have HB := Aside0.mk hb
    have LL := Aside0.mk (show rs.length = j by have h_ := congrArg List.length hm; rw [List.length_map, smoothC_len] at h_; exact h_)
    clear hR hm hb
    by_cases hlt : j < n
    · rcases Nat.eq_zero_or_pos j with h0 | h0
      · subst h0
        obtain ⟨ad, x, hA, hx, hcx⟩ := flo_at (Kd.C_below HR.out HB.out) 0 hlt
        subst hA
        rw [show ad.add 0 = ad from rfl] at hcx
        have FX := Aside0.mk (map_at hx)
        clear hx
        go_wp2_with (first
          | ((with_reducible refine gate_dst (N := 38) rfl ?_); refine Kd.R_append kF (w0 := w) w.heap.size rfl (.tmp 35) (.tmp 37) 22 23 (.float .f64 0) 8 rfl Try.underlying22 info_f64 rfl (by decide) (by omega) v' rs x [.float .f64 x] (fun _ => True) (fun _ => False) rfl rfl rfl (fun _ hk => hk.elim) (fun _ _ => trivial) RR.out HB.out HB.out.size (by have h_ := LL.out; omega) ?_; intro v3 w3 hO hb3 hg3 hn3; have R3 := Aside0.mk hO; have B3 := Aside0.mk hb3; clear hO hb3 hg3 hn3))
        go_roundw
        case rel =>
          refine ⟨1, v3, rs ++ [x], rfl, hlt, by go_num, R3.out, ?_, B3.out⟩
          rw [List.map_append, MM.out, List.map_cons, List.map_nil, smoothC_succ, ← FX.out]
          rfl
        case measure =>
          simp [intOf]
          go_num
      · obtain ⟨k, rfl⟩ : ∃ k, j = k + 1 := ⟨j - 1, by omega⟩
        obtain ⟨ad, x, hA, hx, hcx⟩ := flo_at (Kd.C_below HR.out HB.out) (k + 1) hlt
        obtain ⟨g, cap, ev, hC, hcap⟩ := R_read (k + 1) LL.out (by omega) RR.out
        subst hA ev
        obtain ⟨bd, y, hB, hy, _⟩ := flo_at hC k (by omega)
        have hcy := flo_cell hC k (by omega) hy
        rw [add_succ] at hcx
        have FX := Aside0.mk (map_at hx)
        have FY := Aside0.mk (smoothC_at MM.out (by omega) hy)
        have e1 : ((k : Int) + 1).toNat = k + 1 := by omega
        have e2 : ((k + 1 : Nat) : Int) = (k : Int) + 1 := by omega
        have e3 : (k : Int) + 1 - 1 = (k : Int) := by omega
        have e4 : (0 : Int) < (k : Int) + 1 := by omega
        have hk1 : (k : Int) + 1 < n := by omega
        have hk2 : (k : Int) < (k : Int) + 1 := by omega
        have hwk : IntKind.i64.wrap (k : Int) = (k : Int) := IntWalk.i64_in _ (by omega)
        clear hx hy hj h0 hB hC
        rw [e2]
        go_wp2_with (first
          | ((with_reducible refine gate_dst (N := 28) rfl ?_); refine fop_event rfl (N := 28) rfl rfl (.inr (.inr (.inl rfl))) rfl rfl ?_; intro r1 w1 hcv hb2 hw2; have C1 := Aside0.mk hcv; have B1 := Aside0.mk (HB.out.trans (hb2.mono HB.out.size)); have R1 := Aside0.mk (Kd.R_below RR.out hb2); clear hcv hb2 hw2)
          | ((with_reducible refine gate_dst (N := 31) rfl ?_); refine fop_event rfl (N := 31) rfl rfl (.inr (.inr (.inl rfl))) rfl rfl ?_; intro r2 w2 hcv hb2 hw2; have C2 := Aside0.mk hcv; have B2 := Aside0.mk (B1.out.trans (hb2.mono B1.out.size)); have R2 := Aside0.mk (Kd.R_below R1.out hb2); clear hcv hb2 hw2)
          | ((with_reducible refine gate_dst (N := 34) rfl ?_); refine fop_event rfl (N := 34) rfl rfl (.inl rfl) rfl rfl ?_; intro r3 w3 hcv hb2 hw2; have C3 := Aside0.mk hcv; have B3 := Aside0.mk (B2.out.trans (hb2.mono B2.out.size)); have R3 := Aside0.mk (Kd.R_below R2.out hb2); clear hcv hb2 hw2)
          | ((with_reducible refine gate_dst (N := 38) rfl ?_); refine Kd.R_append kF (w0 := w) w.heap.size rfl (.tmp 35) (.tmp 37) 22 23 (.float .f64 0) 8 rfl Try.underlying22 info_f64 rfl (by decide) (by omega) _ rs r3 [.float .f64 r3] (fun _ => True) (fun _ => False) rfl rfl rfl (fun _ hk => hk.elim) (fun _ _ => trivial) R3.out B3.out B3.out.size (by have h_ := LL.out; omega) ?_; intro v4 w4 hO hb3 hg3 hn3; have R4 := Aside0.mk hO; have B4 := Aside0.mk hb3; clear hO hb3 hg3 hn3))
        go_roundw
        case rel =>
          refine ⟨k + 2, v4, rs ++ [r3], rfl, hlt, by go_num, R4.out, ?_, B4.out⟩
          rw [List.map_append, MM.out, List.map_cons, List.map_nil, smoothC_succ (cv keep) _ (k + 1)]
          rw [C3.out, C2.out, C1.out, CR.out, FY.out, ← FX.out, cv1]
          rfl
        case measure =>
          simp [intOf]
          go_num
    · obtain rfl : j = n := by omega
      clear hj
      go_wp2
      go_ret
      exact ⟨_, rs, rfl, RR.out, MM.out, HB.out⟩
set_option maxHeartbeats 2000000 in
set_option maxRecDepth 100000 in
theorem SmoothR_as {w : World} {A : Option Addr} {c : Nat} {l : List Nat} (n : Nat) (hr : Kd.C kF w A n l) (hn : l.length = n) (hc : n ≤ c) (hl : n ≤ 4096) (keep : Nat) : Calls Try.prog 27 #[.slice A n c, .float .f64 keep] w fun e w' => ∃ (v : Value) (rs : List Nat), e = .returned v ∧ Kd.R kF 23 w' w.heap.size (fun _ => True) v rs ∧ rs.map cv = smoothC (cv keep) (l.map cv) n ∧ Below w.heap.size w w' := by
  have HR := Aside0.mk hr
  have HN := Aside0.mk hn
  clear hr hn
  go_enter Try.func27, Try.ntmps27
  go_wp2_with (first
    | ((with_reducible refine gate_dst (N := 11) rfl ?_); refine fop_event rfl (N := 11) rfl rfl (.inr (.inl rfl)) rfl rfl ?_; intro rr w0 hcv hb2 hw2; have CR := Aside0.mk hcv; have B0 := Aside0.mk hb2; clear hcv hb2 hw2))
  have HR0 := Aside0.mk (Kd.C_below HR.out B0.out)
  go_loopw [5, 7] (fun v i wr => ∃ (j : Nat) (v' : Value) (rs : List Nat), v' = v ∧ j ≤ n ∧ i = .int .i64 (j : Int) ∧ Kd.R kF 23 wr w.heap.size (fun _ => True) v' rs ∧ rs.map cv = smoothC (cv keep) (l.map cv) j ∧ Below w.heap.size w wr) (fun _ i _ => n - (intOf i).toNat)
  case atStart => exact ⟨0, _, [], rfl, Nat.zero_le _, rfl, Kd.R_nil _ _ _ _ _, rfl, B0.out⟩
  case round =>
    obtain ⟨j, v', rs, rfl, hj, rfl, hR, hm, hb⟩ := hrel
    have RR := Aside0.mk hR
    have MM := Aside0.mk hm
    have HB := Aside0.mk hb
    have LL := Aside0.mk (show rs.length = j by have h_ := congrArg List.length hm; rw [List.length_map, smoothC_len] at h_; exact h_)
    clear hR hm hb
    by_cases hlt : j < n
    · rcases Nat.eq_zero_or_pos j with h0 | h0
      · subst h0
        obtain ⟨ad, x, hA, hx, hcx⟩ := flo_at (Kd.C_below HR.out HB.out) 0 hlt
        subst hA
        rw [show ad.add 0 = ad from rfl] at hcx
        have FX := Aside0.mk (map_at hx)
        clear hx
        go_wp2_with (first
          | ((with_reducible refine gate_dst (N := 25) rfl ?_); refine Kd.R_append kF (w0 := w) w.heap.size rfl (.tmp 20) (.tmp 24) 22 23 (.float .f64 0) 8 rfl Try.underlying22 info_f64 rfl (by decide) (by omega) v' rs x [.float .f64 x] (fun _ => True) (fun _ => False) rfl rfl rfl (fun _ hk => hk.elim) (fun _ _ => trivial) RR.out HB.out HB.out.size (by have h_ := LL.out; omega) ?_; intro v3 w3 hO hb3 hg3 hn3; have R3 := Aside0.mk hO; have B3 := Aside0.mk hb3; clear hO hb3 hg3 hn3))
        go_roundw
        case rel =>
          refine ⟨1, v3, rs ++ [x], rfl, hlt, by go_num, R3.out, ?_, B3.out⟩
          rw [List.map_append, MM.out, List.map_cons, List.map_nil, smoothC_succ, ← FX.out]
          rfl
        case measure =>
          simp [intOf]
          go_num
      · obtain ⟨k, rfl⟩ : ∃ k, j = k + 1 := ⟨j - 1, by omega⟩
        obtain ⟨ad, x, hA, hx, hcx⟩ := flo_at (Kd.C_below HR.out HB.out) (k + 1) hlt
        obtain ⟨g, cap, ev, hC, hcap⟩ := R_read (k + 1) LL.out (by omega) RR.out
        subst hA ev
        obtain ⟨bd, y, hB, hy, _⟩ := flo_at hC k (by omega)
        have hcy := flo_cell hC k (by omega) hy
        rw [add_succ] at hcx
        have FX := Aside0.mk (map_at hx)
        have FY := Aside0.mk (smoothC_at MM.out (by omega) hy)
        have e1 : ((k : Int) + 1).toNat = k + 1 := by omega
        have e2 : ((k + 1 : Nat) : Int) = (k : Int) + 1 := by omega
        have e3 : (k : Int) + 1 - 1 = (k : Int) := by omega
        have e4 : ((k : Int) + 1 = 0) = False := eq_false (by omega)
        have hk1 : (k : Int) + 1 < n := by omega
        have hk2 : (k : Int) < (k : Int) + 1 := by omega
        have hwk : IntKind.i64.wrap (k : Int) = (k : Int) := IntWalk.i64_in _ (by omega)
        clear hx hy hj h0 hB hC
        rw [e2]
        go_wp2_with (first
          | ((with_reducible refine gate_dst (N := 32) rfl ?_); refine fop_event rfl (N := 32) rfl rfl (.inr (.inr (.inl rfl))) rfl rfl ?_; intro r1 w1 hcv hb2 hw2; have C1 := Aside0.mk hcv; have B1 := Aside0.mk (HB.out.trans (hb2.mono HB.out.size)); have R1 := Aside0.mk (Kd.R_below RR.out hb2); have hcx1 := cell_b hb2 hcx; clear hcv hb2 hw2)
          | ((with_reducible refine gate_dst (N := 38) rfl ?_); refine fop_event rfl (N := 38) rfl rfl (.inr (.inr (.inl rfl))) rfl rfl ?_; intro r2 w2 hcv hb2 hw2; have C2 := Aside0.mk hcv; have B2 := Aside0.mk (B1.out.trans (hb2.mono B1.out.size)); have R2 := Aside0.mk (Kd.R_below R1.out hb2); clear hcv hb2 hw2)
          | ((with_reducible refine gate_dst (N := 42) rfl ?_); refine fop_event rfl (N := 42) rfl rfl (.inl rfl) rfl rfl ?_; intro r3 w3 hcv hb2 hw2; have C3 := Aside0.mk hcv; have B3 := Aside0.mk (B2.out.trans (hb2.mono B2.out.size)); have R3 := Aside0.mk (Kd.R_below R2.out hb2); clear hcv hb2 hw2)
          | ((with_reducible refine gate_dst (N := 44) rfl ?_); refine Kd.R_append kF (w0 := w) w.heap.size rfl (.tmp 39) (.tmp 43) 22 23 (.float .f64 0) 8 rfl Try.underlying22 info_f64 rfl (by decide) (by omega) _ rs r3 [.float .f64 r3] (fun _ => True) (fun _ => False) rfl rfl rfl (fun _ hk => hk.elim) (fun _ _ => trivial) R3.out B3.out B3.out.size (by have h_ := LL.out; omega) ?_; intro v4 w4 hO hb3 hg3 hn3; have R4 := Aside0.mk hO; have B4 := Aside0.mk hb3; clear hO hb3 hg3 hn3))
        go_roundw
        case rel =>
          refine ⟨k + 2, v4, rs ++ [r3], rfl, hlt, by go_num, R4.out, ?_, B4.out⟩
          rw [List.map_append, MM.out, List.map_cons, List.map_nil, smoothC_succ (cv keep) _ (k + 1)]
          rw [C3.out, C2.out, C1.out, CR.out, FY.out, ← FX.out, cv1]
          rfl
        case measure =>
          simp [intOf]
          go_num
    · obtain rfl : j = n := by omega
      clear hj
      go_wp2
      go_ret
      exact ⟨_, rs, rfl, RR.out, MM.out, HB.out⟩
end Go.Proofs.Ytngncegokmppiaa.Flo
