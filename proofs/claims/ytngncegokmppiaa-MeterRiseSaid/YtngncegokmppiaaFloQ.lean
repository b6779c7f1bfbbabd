/- Steps, and what follows slowly. -/
import Derived.Test.YtngncegokmppiaaFloN
namespace Go.Proofs.Ytngncegokmppiaa.Flo
open Go Go.RowKit Go.Proofs.Ytngncegokmppiaa.Reg Go.Proofs.YtngncegokmppiaaW.PrintWords Go.Proofs.YtngncegokmppiaaW.PrintLast Go.Proofs.YtngncegokmppiaaW.PrintMore
set_option linter.unusedVariables false
set_option linter.unusedSimpArgs false
/-- The steps of the first n + 1 numbers. -/
def stepsC (cs : List (Option Nat)) (n : Nat) : List (Option Nat) := (List.range n).map fun i => fop .sub (cs.getD (i + 1) none) (cs.getD i none)
theorem stepsC_succ (cs : List (Option Nat)) (n : Nat) : stepsC cs (n + 1) = stepsC cs n ++ [fop .sub (cs.getD (n + 1) none) (cs.getD n none)] := by
  unfold stepsC
  rw [List.range_succ, List.map_append]
  rfl
theorem stepsC_len (cs : List (Option Nat)) (n : Nat) : (stepsC cs n).length = n := by simp [stepsC]
theorem map_at {l : List Nat} {j x : Nat} (h : l[j]? = some x) : (l.map cv).getD j none = cv x := by
  rw [List.getD_eq_getElem?_getD, List.getElem?_map, h]
  rfl
theorem add_succ (ad : Addr) (k : Nat) : ad.add (k + 1) = { block := ad.block, off := ad.off + (k + 1) } := by simp [Addr.add]
set_option maxHeartbeats 2000000 in
set_option maxRecDepth 100000 in
theorem StepsR_as {w : World} {A : Option Addr} {c : Nat} {l : List Nat} (n : Nat) (hr : Kd.C kF w A n l) (hn : l.length = n) (hc : n ≤ c) (hl : n ≤ 4096) : Calls Try.prog 25 #[.slice A n c] w fun e w' => ∃ (v : Value) (rs : List Nat), e = .returned v ∧ Kd.R kF 23 w' w.heap.size (fun _ => True) v rs ∧ rs.map cv = stepsC (l.map cv) (n - 1) ∧ Below w.heap.size w w' := by
  have HR := Aside0.mk hr
  have HN := Aside0.mk hn
  clear hr hn
  go_enter Try.func25, Try.ntmps25
  go_wp2
  go_loopw [3, 4] (fun v i wr => ∃ (j : Nat) (v' : Value) (rs : List Nat), v' = v ∧ (j ≤ n ∨ j = 1) ∧ 1 ≤ j ∧ i = .int .i64 (j : Int) ∧ Kd.R kF 23 wr w.heap.size (fun _ => True) v' rs ∧ rs.map cv = stepsC (l.map cv) (j - 1) ∧ Below w.heap.size w wr) (fun _ i _ => n - (intOf i).toNat)
  case atStart => exact ⟨1, _, [], rfl, .inr rfl, Nat.le_refl _, rfl, Kd.R_nil _ _ _ _ _, rfl, Below.refl _ _⟩
  case round =>
    obtain ⟨j, v', rs, rfl, hj, hj1, rfl, hR, hm, hb⟩ := hrel
    have RR := Aside0.mk hR
    have MM := Aside0.mk hm
    have HB := Aside0.mk hb
    clear hR hm hb
    by_cases hlt : j < n
    · obtain ⟨k, rfl⟩ : ∃ k, j = k + 1 := ⟨j - 1, by omega⟩
      obtain ⟨ad, x, hA, hx, hcx⟩ := flo_at HR.out (k + 1) hlt
      obtain ⟨bd, y, hB, hy, hcy⟩ := flo_at HR.out k (by omega)
      subst hA
      obtain rfl := Option.some.inj hB
      rw [add_succ] at hcx
      have CX := Aside0.mk hcx
      have CY := Aside0.mk hcy
      have FX := Aside0.mk (map_at hx)
      have FY := Aside0.mk (map_at hy)
      have e1 : ((k : Int) + 1).toNat = k + 1 := by omega
      have e2 : ((k + 1 : Nat) : Int) = (k : Int) + 1 := by omega
      have e3 : (k : Int) + 1 - 1 = (k : Int) := by omega
      have hk1 : (k : Int) + 1 < n := by omega
      have hk2 : (k : Int) < n := by omega
      have hwk : IntKind.i64.wrap (k : Int) = (k : Int) := IntWalk.i64_in _ (by omega)
      clear hx hy hcx hcy hj hj1
      rw [e2]
      go_wp2
      refine wp_region_text (fun W => Below w.heap.size w W) (fun i => [10, 11, 12].contains i) (by kernel_rfl) (by kernel_rfl) (HB.out.trans ((Below.refl w.heap.size _).drew)) ?_
      have HI := Aside0.mk (HB.out.trans ((Below.refl w.heap.size wr).drew))
      have RD := Aside0.mk (Kd.R_below RR.out ((Below.refl wr.heap.size wr).drew))
      generalize wr.drew = wd at HI RD ⊢
      repeat (first
        | ((apply S_val rfl; (first | exact wanted_none rfl | exact wanted_yes rfl rfl (by kernel_rfl)); (intro W hW R hR; have z0 := cell_b hW CX.out; have z1 := cell_b hW CY.out; go_simp; exact hR)); go_frame)
        | ((refine S_list rfl ?_ ?_; (first | exact wanted_none rfl | exact wanted_yes rfl rfl (by kernel_rfl))); refine fop_event rfl (N := 21) rfl rfl (.inr (.inl rfl)) rfl rfl ?_; intro r2 w2 hcv hb2 hw2; have C2 := Aside0.mk hcv; have J2 := Aside0.mk (HI.out.trans (hb2.mono HI.out.size)); have R2 := Aside0.mk (Kd.R_below RD.out hb2); clear hcv hb2 hw2; refine L_end J2.out ?_; go_frame)
        | ((refine S_make (v := .slice (some ⟨w2.heap.size, 0, none⟩) 1 1) (w' := w2.alloc (.cells #[.float .f64 r2] 23)) rfl ?_ ?_ (J2.out.alloc J2.out.size _) ?_; (first | exact wanted_none rfl | exact wanted_yes rfl rfl (by kernel_rfl)); (focus (first | (go_simp; done) | (go_simp; rfl)))); go_frame)
        | ((refine S_list rfl ?_ ?_; (first | exact wanted_none rfl | exact wanted_yes rfl rfl (by kernel_rfl))); refine Kd.R_append kF (w0 := w) w.heap.size rfl (.tmp 11) (.tmp 22) 22 23 (.float .f64 0) 8 rfl Try.underlying22 info_f64 rfl (by decide) (by omega) v' rs r2 [.float .f64 r2] (fun _ => True) (fun _ => False) rfl rfl rfl (fun _ hk => hk.elim) (fun _ _ => trivial) R2.out J2.out J2.out.size (by have h_ := congrArg List.length MM.out; rw [List.length_map, stepsC_len] at h_; omega) ?_; intro v3 w3 hO hb3 hg3 hn3; have R3 := Aside0.mk hO; have B3 := Aside0.mk hb3; clear hO hb3 hg3 hn3; refine L_end B3.out ?_; go_frame))
      apply S_nil
      go_wp2
      go_roundw
      case rel =>
        refine ⟨k + 2, v3, rs ++ [r2], rfl, .inl hlt, by omega, by go_num, R3.out, ?_, B3.out⟩
        rw [List.map_append, MM.out, List.map_cons, List.map_nil, show k + 2 - 1 = k + 1 by omega, show k + 1 - 1 = k by omega, stepsC_succ, C2.out, FX.out, FY.out]
      case measure =>
        simp [intOf]
        go_num
    · have hje : j - 1 = n - 1 := by omega
      have hji : ((j : Int) < n) = False := eq_false (by omega)
      clear hj
      go_wp2
      go_ret
      exact ⟨_, rs, rfl, RR.out, by rw [MM.out, hje], HB.out⟩
set_option maxHeartbeats 2000000 in
set_option maxRecDepth 100000 in
theorem Steps_as {w : World} {A : Option Addr} {c : Nat} {l : List Nat} (n : Nat) (hr : Kd.C kF w A n l) (hn : l.length = n) (hc : n ≤ c) (hl : n ≤ 4096) : Calls Try.prog 24 #[.slice A n c] w fun e w' => ∃ (v : Value) (rs : List Nat), e = .returned v ∧ Kd.R kF 23 w' w.heap.size (fun _ => True) v rs ∧ rs.map cv = stepsC (l.map cv) (n - 1) ∧ Below w.heap.size w w' := by
  have HR := Aside0.mk hr
  have HN := Aside0.mk hn
  clear hr hn
  go_enter Try.func24, Try.ntmps24
  go_wp2
  go_loopw [3, 8] (fun v i wr => ∃ (j : Nat) (v' : Value) (rs : List Nat), v' = v ∧ j ≤ n ∧ i = .int .i64 (j : Int) ∧ Kd.R kF 23 wr w.heap.size (fun _ => True) v' rs ∧ rs.map cv = stepsC (l.map cv) (j - 1) ∧ Below w.heap.size w wr) (fun _ i _ => n - (intOf i).toNat)
  case atStart => exact ⟨0, _, [], rfl, Nat.zero_le _, rfl, Kd.R_nil _ _ _ _ _, rfl, Below.refl _ _⟩
  case round =>
    obtain ⟨j, v', rs, rfl, hj, rfl, hR, hm, hb⟩ := hrel
    have RR := Aside0.mk hR
    have MM := Aside0.mk hm
    have HB := Aside0.mk hb
    clear hR hm hb
    by_cases hlt : j < n
    · rcases Nat.eq_zero_or_pos j with h0 | h0
      · subst h0
        obtain ⟨ad, x, hA, hx, hcx⟩ := flo_at (Kd.C_below HR.out HB.out) 0 hlt
        subst hA
        rw [show ad.add 0 = ad from rfl] at hcx
        clear hx
        go_wp2
        go_roundw
        case rel =>
          refine ⟨1, v', rs, rfl, hlt, by go_num, RR.out, MM.out, HB.out⟩
        case measure =>
          simp [intOf]
          go_num
      · obtain ⟨k, rfl⟩ : ∃ k, j = k + 1 := ⟨j - 1, by omega⟩
        obtain ⟨ad, x, hA, hx, hcx⟩ := flo_at (Kd.C_below HR.out HB.out) (k + 1) hlt
        obtain ⟨bd, y, hB, hy, hcy⟩ := flo_at (Kd.C_below HR.out HB.out) k (by omega)
        subst hA
        obtain rfl := Option.some.inj hB
        rw [add_succ] at hcx
        have FX := Aside0.mk (map_at hx)
        have FY := Aside0.mk (map_at hy)
        have e1 : ((k : Int) + 1).toNat = k + 1 := by omega
        have e2 : ((k + 1 : Nat) : Int) = (k : Int) + 1 := by omega
        have e3 : (k : Int) + 1 - 1 = (k : Int) := by omega
        have e4 : (0 : Int) < (k : Int) + 1 := by omega
        have hk1 : (k : Int) + 1 < n := by omega
        have hk2 : (k : Int) < n := by omega
        have hwk : IntKind.i64.wrap (k : Int) = (k : Int) := IntWalk.i64_in _ (by omega)
        clear hx hy hj h0
        rw [e2]
        go_wp2_with (first
          | ((with_reducible refine gate_dst (N := 22) rfl ?_); refine fop_event rfl (N := 22) rfl rfl (.inr (.inl rfl)) rfl rfl ?_; intro r2 w2 hcv hb2 hw2; have C2 := Aside0.mk hcv; have B2 := Aside0.mk (HB.out.trans (hb2.mono HB.out.size)); have R2 := Aside0.mk (Kd.R_below RR.out hb2); clear hcv hb2 hw2)
          | ((with_reducible refine gate_dst (N := 24) rfl ?_); refine Kd.R_append kF (w0 := w) w.heap.size rfl (.tmp 15) (.tmp 23) 22 23 (.float .f64 0) 8 rfl Try.underlying22 info_f64 rfl (by decide) (by omega) v' rs r2 [.float .f64 r2] (fun _ => True) (fun _ => False) rfl rfl rfl (fun _ hk => hk.elim) (fun _ _ => trivial) R2.out B2.out B2.out.size (by have h_ := congrArg List.length MM.out; rw [List.length_map, stepsC_len] at h_; omega) ?_; intro v3 w3 hO hb3 hg3 hn3; have R3 := Aside0.mk hO; have B3 := Aside0.mk hb3; clear hO hb3 hg3 hn3))
        go_roundw
        case rel =>
          refine ⟨k + 2, v3, rs ++ [r2], rfl, hlt, by go_num, R3.out, ?_, B3.out⟩
          rw [List.map_append, MM.out, List.map_cons, List.map_nil, show k + 2 - 1 = k + 1 by omega, show k + 1 - 1 = k by omega, stepsC_succ, C2.out, FX.out, FY.out]
        case measure =>
          simp [intOf]
          go_num
    · obtain rfl : j = n := by omega
      clear hj
      go_wp2
      go_ret
      exact ⟨_, rs, rfl, RR.out, MM.out, HB.out⟩
/-- What follows slowly. -/
def smC (keep : Option Nat) (cs : List (Option Nat)) : Nat → Option Nat
  | 0 => cs.getD 0 none
  | n + 1 => fop .add (fop .mul keep (smC keep cs n)) (fop .mul (fop .sub (some 4607182418800017408) keep) (cs.getD (n + 1) none))
def smoothC (keep : Option Nat) (cs : List (Option Nat)) (n : Nat) : List (Option Nat) := (List.range n).map (smC keep cs)
theorem smoothC_succ (keep : Option Nat) (cs : List (Option Nat)) (n : Nat) : smoothC keep cs (n + 1) = smoothC keep cs n ++ [smC keep cs n] := by
  unfold smoothC
  rw [List.range_succ, List.map_append]
  rfl
theorem smoothC_len (keep : Option Nat) (cs : List (Option Nat)) (n : Nat) : (smoothC keep cs n).length = n := by simp [smoothC]
theorem smoothC_at {keep : Option Nat} {cs : List (Option Nat)} {n j x : Nat} {rs : List Nat} (h : rs.map cv = smoothC keep cs n) (hj : j < n) (hx : rs[j]? = some x) : cv x = smC keep cs j := by
  have h_ := congrArg (fun t => t[j]?) h
  unfold smoothC at h_
  simp [hx, hj] at h_
  exact h_
theorem cv1 : cv 4607182418800017408 = some 4607182418800017408 := by decide
end Go.Proofs.Ytngncegokmppiaa.Flo
