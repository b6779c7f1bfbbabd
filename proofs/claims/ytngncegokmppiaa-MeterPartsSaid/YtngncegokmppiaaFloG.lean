/- Rows of numbers behind an edge. -/
import Derived.Test.YtngncegokmppiaaFloE
namespace Go.Proofs.Ytngncegokmppiaa.Flo
open Go Go.RowKit Go.Proofs.YtngncegokmppiaaW.PrintWords Go.Proofs.YtngncegokmppiaaW.PrintLast Go.Proofs.YtngncegokmppiaaW.PrintMore
set_option linter.unusedVariables false
set_option linter.unusedSimpArgs false
abbrev kP : Kd (Int × Int) := Kd.pair (Kd.int .i64) (Kd.int .i64)
theorem kP_mk (w : World) (base : Nat) (ok : Nat → Prop) (a b : Int) : kP.M w base ok (a, b) [.int .i64 a, .int .i64 b] := ⟨[.int .i64 a], [.int .i64 b], rfl, rfl, rfl⟩
theorem info_P : (Try.prog.info? 29).map (fun i => (i.zero, i.size, i.bytes)) = some (some (.agg #[.int .i64 0, .int .i64 0]), 2, 16) := by kernel_rfl
def runSt (bs : List Bool) : Nat → List (Int × Int) × Int
  | 0 => ([], -1)
  | n + 1 => if bs.getD n false then ((runSt bs n).1, if (runSt bs n).2 < 0 then (n : Int) else (runSt bs n).2) else if 0 ≤ (runSt bs n).2 then ((runSt bs n).1 ++ [((runSt bs n).2, (n : Int) - (runSt bs n).2)], -1) else runSt bs n
def runsL (bs : List Bool) : List (Int × Int) := if 0 ≤ (runSt bs bs.length).2 then (runSt bs bs.length).1 ++ [((runSt bs bs.length).2, (bs.length : Int) - (runSt bs bs.length).2)] else (runSt bs bs.length).1
theorem runSt_in (bs : List Bool) : ∀ n : Nat, -1 ≤ (runSt bs n).2 ∧ (runSt bs n).2 ≤ (n : Int) - 1 ∧ (runSt bs n).1.length ≤ n := by
  intro n
  induction n with
  | zero => simp [runSt]
  | succ n ih =>
    unfold runSt
    by_cases hb : bs.getD n false = true
    · rw [if_pos hb]
      simp only
      by_cases h : (runSt bs n).2 < 0
      · rw [if_pos h]; omega
      · rw [if_neg h]; omega
    · rw [if_neg hb]
      by_cases h : 0 ≤ (runSt bs n).2
      · rw [if_pos h]
        simp only [List.length_append, List.length_cons, List.length_nil]
        omega
      · rw [if_neg h]; omega
def bitsOf (l : List Nat) (edge : Nat) : List Bool := l.map fun x => decide (0 < cmpF x edge)
theorem bits_at {l : List Nat} {edge : Nat} {j : Nat} {x : Nat} (h : l[j]? = some x) : (bitsOf l edge).getD j false = decide (0 < cmpF x edge) := by
  unfold bitsOf
  rw [List.getD_eq_getElem?_getD, List.getElem?_map, h]
  rfl
set_option maxHeartbeats 4000000 in
set_option maxRecDepth 100000 in
theorem Runs_calls {w : World} {A : Option Addr} {c : Nat} {l : List Nat} (hr : Kd.C kF w A l.length l) (hl : l.length ≤ 4096) (edge : Nat) : Calls Try.prog 10 #[.slice A l.length c, .float .f64 edge] w fun e w' => ∃ v : Value, e = .returned v ∧ Kd.R kP 29 w' w.heap.size (fun _ => True) v (runsL (bitsOf l edge)) ∧ Below w.heap.size w w' := by
  have HR := Aside0.mk hr
  clear hr
  go_enter Try.func10, Try.ntmps10
  go_wp2_with fail
  go_step3
  go_wp2_with fail
  go_step3
  go_wp2_with fail
  go_loopw [5, 6, 11] (fun v fr i wr => ∃ (j : Nat) (v' : Value), v' = v ∧ j ≤ l.length ∧ i = .int .i64 (j : Int) ∧ fr = .int .i64 (runSt (bitsOf l edge) j).2 ∧ Kd.R kP 29 wr w.heap.size (fun _ => True) v' (runSt (bitsOf l edge) j).1 ∧ Below w.heap.size w wr) (fun _ _ i _ => l.length - (intOf i).toNat)
  case atStart => exact ⟨0, _, rfl, Nat.zero_le _, rfl, rfl, Kd.R_nil _ _ _ _ _, Below.refl _ _⟩
  case round =>
    obtain ⟨j, v', rfl, hj, rfl, rfl, hR, hb⟩ := hrel
    have RR := Aside0.mk hR
    have HB := Aside0.mk hb
    clear hR hb
    by_cases hlt : j < l.length
    · obtain ⟨ad, x, hA, hx, hcell⟩ := flo_at (Kd.C_below HR.out HB.out) j hlt
      have hbit := bits_at (edge := edge) hx
      have hst := runSt_in (bitsOf l edge) j
      obtain ⟨s, hs⟩ : ∃ s, runSt (bitsOf l edge) j = s := ⟨_, rfl⟩
      obtain ⟨rs, fr⟩ := s
      have hnx : runSt (bitsOf l edge) (j + 1) = if decide (0 < cmpF x edge) = true then (rs, if fr < 0 then (j : Int) else fr) else if 0 ≤ fr then (rs ++ [(fr, (j : Int) - fr)], -1) else (rs, fr) := by
        rw [runSt, hbit, hs]
      have RR2 := Aside0.mk (show Kd.R kP 29 wr w.heap.size (fun _ => True) v' rs from by have h_ := RR.out; rw [hs] at h_; exact h_)
      simp only [hs]
      rw [hs] at hst
      simp only at hst
      have HNX := Aside0.mk hnx
      have HST := Aside0.mk hst
      have hf1 : -1 ≤ fr ∧ fr ≤ (j : Int) - 1 := ⟨hst.1, hst.2.1⟩
      obtain ⟨cc, hcc⟩ : ∃ cc, cmpF x edge = cc := ⟨_, rfl⟩
      have CC := Aside0.mk hcc
      subst hA
      clear hx hbit hs hst hnx RR hcc
      by_cases hb : 0 < cc
      · have g1 : decide (0 < cc) = true := decide_eq_true hb
        by_cases hn : fr < 0
        · skip
          have g2 : decide (fr < 0) = true := decide_eq_true hn
          have N2 := Aside0.mk (show runSt (bitsOf l edge) (j + 1) = (rs, (j : Int)) from by rw [HNX.out, CC.out, if_pos g1, if_pos hn])
          go_wp2_with (first
            | (go_at_call 11; refine (gCmp_as _ x edge cc CC.out).mono ?_; rintro e w2 ⟨rfl, rfl⟩))
          go_roundw
          case rel => exact ⟨j + 1, v', rfl, hlt, by go_num, by rw [N2.out], by rw [N2.out]; exact RR2.out, HB.out⟩
          case measure =>
            simp [intOf]
            go_num
        · skip
          have g2 : decide (fr < 0) = false := decide_eq_false hn
          have N2 := Aside0.mk (show runSt (bitsOf l edge) (j + 1) = (rs, fr) from by rw [HNX.out, CC.out, if_pos g1, if_neg hn])
          go_wp2_with (first
            | (go_at_call 11; refine (gCmp_as _ x edge cc CC.out).mono ?_; rintro e w2 ⟨rfl, rfl⟩))
          go_roundw
          case rel => exact ⟨j + 1, v', rfl, hlt, by go_num, by rw [N2.out], by rw [N2.out]; exact RR2.out, HB.out⟩
          case measure =>
            simp [intOf]
            go_num
      · have g1 : decide (0 < cc) = false := decide_eq_false hb
        by_cases hn : 0 ≤ fr
        · skip
          have g2 : decide (0 ≤ fr) = true := decide_eq_true hn
          have N2 := Aside0.mk (show runSt (bitsOf l edge) (j + 1) = (rs ++ [(fr, (j : Int) - fr)], -1) from by rw [HNX.out, CC.out, if_neg (by simp [g1]), if_pos hn])
          go_wp2_with (first
            | (go_at_call 11; refine (gCmp_as _ x edge cc CC.out).mono ?_; rintro e w2 ⟨rfl, rfl⟩)
            | ((with_reducible refine gate_dst (N := 32) rfl ?_); refine Kd.R_append kP (w0 := w) w.heap.size rfl (.tmp 25) (.tmp 31) 26 29 (.agg #[.int .i64 0, .int .i64 0]) 16 rfl Try.underlying26 info_P rfl (by decide) (by omega) v' rs (fr, (j : Int) - fr) [.int .i64 fr, .int .i64 ((j : Int) - fr)] (fun _ => True) (fun _ => False) rfl rfl (kP_mk _ _ _ _ _) (fun _ hk => hk.elim) (fun _ _ => trivial) RR2.out HB.out HB.out.size (by have h_ := HST.out.2.2; omega) ?_; intro v3 w3 hO hb3 hg3 hn3; have R3 := Aside0.mk hO; have B3 := Aside0.mk hb3; clear hO hb3 hg3 hn3))
          go_roundw
          case rel => exact ⟨j + 1, v3, rfl, hlt, by go_num, by rw [N2.out], by rw [N2.out]; exact R3.out, B3.out⟩
          case measure =>
            simp [intOf]
            go_num
        · skip
          have g2 : decide (0 ≤ fr) = false := decide_eq_false hn
          have N2 := Aside0.mk (show runSt (bitsOf l edge) (j + 1) = (rs, fr) from by rw [HNX.out, CC.out, if_neg (by simp [g1]), if_neg hn])
          go_wp2_with (first
            | (go_at_call 11; refine (gCmp_as _ x edge cc CC.out).mono ?_; rintro e w2 ⟨rfl, rfl⟩))
          go_roundw
          case rel => exact ⟨j + 1, v', rfl, hlt, by go_num, by rw [N2.out], by rw [N2.out]; exact RR2.out, HB.out⟩
          case measure =>
            simp [intOf]
            go_num
    · obtain rfl : j = l.length := by omega
      have hst := runSt_in (bitsOf l edge) l.length
      have hbl : (bitsOf l edge).length = l.length := by unfold bitsOf; rw [List.length_map]
      obtain ⟨s, hs⟩ : ∃ s, runSt (bitsOf l edge) l.length = s := ⟨_, rfl⟩
      obtain ⟨rs, fr⟩ := s
      have RR2 := Aside0.mk (show Kd.R kP 29 wr w.heap.size (fun _ => True) v' rs from by have h_ := RR.out; rw [hs] at h_; exact h_)
      have NL := Aside0.mk (show runsL (bitsOf l edge) = if 0 ≤ fr then rs ++ [(fr, (l.length : Int) - fr)] else rs by unfold runsL; rw [hbl, hs])
      simp only [hs]
      rw [hs] at hst
      simp only at hst
      have HST := Aside0.mk hst
      have hf1 : -1 ≤ fr ∧ fr ≤ (l.length : Int) - 1 := ⟨hst.1, hst.2.1⟩
      clear hj hs hst RR hbl
      by_cases hn : 0 ≤ fr
      · have g2 : decide (0 ≤ fr) = true := decide_eq_true hn
        go_wp2_with (first
          | ((with_reducible refine gate_dst (N := 44) rfl ?_); refine Kd.R_append kP (w0 := w) w.heap.size rfl (.tmp 36) (.tmp 43) 26 29 (.agg #[.int .i64 0, .int .i64 0]) 16 rfl Try.underlying26 info_P rfl (by decide) (by omega) v' rs (fr, (l.length : Int) - fr) [.int .i64 fr, .int .i64 ((l.length : Int) - fr)] (fun _ => True) (fun _ => False) rfl rfl (kP_mk _ _ _ _ _) (fun _ hk => hk.elim) (fun _ _ => trivial) RR2.out HB.out HB.out.size (by have h_ := HST.out.2.2; omega) ?_; intro v3 w3 hO hb3 hg3 hn3; have R3 := Aside0.mk hO; have B3 := Aside0.mk hb3; clear hO hb3 hg3 hn3))
        (try simp only [Exit.noGoto])
        go_ret
        exact ⟨_, rfl, by rw [NL.out, if_pos hn]; exact R3.out, B3.out⟩
      · have g2 : decide (0 ≤ fr) = false := decide_eq_false hn
        go_wp2
        (try simp only [Exit.noGoto])
        go_ret
        exact ⟨_, rfl, by rw [NL.out, if_neg (by omega)]; exact RR2.out, HB.out⟩
end Go.Proofs.Ytngncegokmppiaa.Flo
