/- The document's order, and its sort. -/
import Derived.Test.YtngncegokmppiaaFloX
import Derived.Test.YtngncegokmppiaaLwMeans
import Derived.Test.YtngncegokmppiaaRegC
namespace Go.Proofs.Ytngncegokmppiaa.Flo
open Go Go.RowKit Go.Proofs.Ytngncegokmppiaa.Reg Go.Proofs.YtngncegokmppiaaW.PrintWords Go.Proofs.YtngncegokmppiaaW.PrintLast Go.Proofs.YtngncegokmppiaaW.PrintMore
set_option linter.unusedVariables false
set_option linter.unusedSimpArgs false
theorem kk_nought (x : Nat) : kk x = 0 ↔ rg x = 0 := by
  unfold kk sg
  split <;> omega
theorem key_kk {a b : Nat} (ha : isN a = false) (hb : isN b = false) (hz : ¬ (kk a = 0 ∧ kk b = 0)) : (key a < key b) ↔ (kk a < kk b) := by
  rw [key_num ha, key_num hb]
  have h1 := rg_lt a
  have h2 := rg_lt b
  unfold kk sg at *
  cases ng a <;> cases ng b <;> simp only [Bool.false_eq_true, if_true, if_false] at * <;> omega
theorem key_zero {a b : Nat} (ha : isN a = false) (hb : isN b = false) (h1 : kk a = 0) (h2 : kk b = 0) : decide (key a < key b) = (ng a && !ng b) := by
  rw [key_num ha, key_num hb]
  rw [kk_nought] at h1 h2
  rw [h1, h2]
  cases ng a <;> cases ng b <;> rfl
set_option maxHeartbeats 2000000 in
theorem Ahead_calls (w : World) (a b : Nat) : Calls Try.prog 36 #[.float .f64 a, .float .f64 b] w fun e w' => e = .returned (.bool (decide (key a < key b))) ∧ w = w' := by
  obtain ⟨p, hp⟩ : ∃ p, isN a = p := ⟨_, rfl⟩
  obtain ⟨q, hq⟩ : ∃ q, isN b = q := ⟨_, rfl⟩
  have HP := Aside0.mk hp
  have HQ := Aside0.mk hq
  by_cases hn : p = true ∨ q = true
  · have KK := Aside0.mk (show decide (key a < key b) = (p && !q) from by
      cases p <;> cases q
      · simp at hn
      · rw [key_nan hq]; have := key_above hp; exact decide_eq_false (by omega)
      · rw [key_nan hp]; have := key_above hq; exact decide_eq_true (by omega)
      · rw [key_nan hq, key_nan hp]; exact decide_eq_false (by omega))
    rw [KK.out]
    clear KK hp hq
    cases p <;> cases q <;> (try (simp at hn; done)) <;> (
      clear hn
      go_enter Try.func36, Try.ntmps36
      go_wp2_with (first
        | (go_at_call 35; (with_reducible refine gate_call (args0 := #[.float .f64 a]) rfl ?_); refine (None_as _ a _ HP.out).mono ?_; rintro e w1 ⟨rfl, rfl⟩)
        | (go_at_call 35; refine (None_as _ b _ HQ.out).mono ?_; rintro e w1 ⟨rfl, rfl⟩))
      go_ret
      exact ⟨rfl, rfl⟩)
  · obtain ⟨rfl, rfl⟩ : p = false ∧ q = false := by cases p <;> cases q <;> simp at hn ⊢
    have ea := ord_eq hp isN_0
    have eb := ord_eq hq isN_0
    rw [kk_0] at ea eb
    by_cases hz : kk a = 0 ∧ kk b = 0
    · rw [decide_eq_true hz.1] at ea
      rw [decide_eq_true hz.2] at eb
      rw [key_zero hp hq hz.1 hz.2, ← sgn_eq, ← sgn_eq]
      obtain ⟨s, hs⟩ : ∃ s, sgn a = s := ⟨_, rfl⟩
      obtain ⟨u, hu⟩ : ∃ u, sgn b = u := ⟨_, rfl⟩
      rw [hs, hu]
      have SA := Aside0.mk hs
      have SB := Aside0.mk hu
      clear hs hu hp hq hn hz
      cases s <;> (
        go_enter Try.func36, Try.ntmps36
        go_wp2_with (first
          | (go_at_call 35; (with_reducible refine gate_call (args0 := #[.float .f64 a]) rfl ?_); refine (None_as _ a _ HP.out).mono ?_; rintro e w1 ⟨rfl, rfl⟩)
          | (go_at_call 35; refine (None_as _ b _ HQ.out).mono ?_; rintro e w1 ⟨rfl, rfl⟩)
          | (go_at_call 30; (with_reducible refine gate_call (args0 := #[.float .f64 a]) rfl ?_); refine (Signbit_as _ a _ SA.out).mono ?_; rintro e w1 ⟨rfl, rfl⟩)
          | (go_at_call 30; refine (Signbit_as _ b _ SB.out).mono ?_; rintro e w1 ⟨rfl, rfl⟩))
        go_ret
        refine ⟨?_, rfl⟩
        (try simp))
    · have el : decide (key a < key b) = (FloatKind.f64.format.order a b == some Ordering.lt) := by
        rw [ord_lt hp hq]
        exact decide_eq_decide.2 (key_kk hp hq hz)
      rw [el]
      clear el
      by_cases hza : kk a = 0
      · have hzb : ¬ kk b = 0 := fun h => hz ⟨hza, h⟩
        rw [decide_eq_true hza] at ea
        rw [decide_eq_false hzb] at eb
        clear hp hq hn hz hza hzb
        go_enter Try.func36, Try.ntmps36
        go_wp2_with (first
          | (go_at_call 35; (with_reducible refine gate_call (args0 := #[.float .f64 a]) rfl ?_); refine (None_as _ a _ HP.out).mono ?_; rintro e w1 ⟨rfl, rfl⟩)
          | (go_at_call 35; refine (None_as _ b _ HQ.out).mono ?_; rintro e w1 ⟨rfl, rfl⟩))
        go_ret
        exact ⟨rfl, rfl⟩
      · rw [decide_eq_false hza] at ea
        clear hp hq hn hz hza eb
        go_enter Try.func36, Try.ntmps36
        go_wp2_with (first
          | (go_at_call 35; (with_reducible refine gate_call (args0 := #[.float .f64 a]) rfl ?_); refine (None_as _ a _ HP.out).mono ?_; rintro e w1 ⟨rfl, rfl⟩)
          | (go_at_call 35; refine (None_as _ b _ HQ.out).mono ?_; rintro e w1 ⟨rfl, rfl⟩))
        go_ret
        exact ⟨rfl, rfl⟩
theorem Ahead_as (w : World) (a b : Nat) (t : Bool) (h : decide (key a < key b) = t) : Calls Try.prog 36 #[.float .f64 a, .float .f64 b] w fun e w' => e = .returned (.bool t) ∧ w = w' := by
  rw [← h]
  exact Ahead_calls w a b
theorem flo_tail {w : World} {g n : Nat} {l : List Nat} (h : Kd.C kF w (some ⟨g, 0, none⟩) n l) (k : Nat) (hk : k ≤ n) : Kd.C kF w (some ⟨g, k, none⟩) (n - k) (l.drop k) := by
  have hl := h.1
  rcases Nat.lt_or_eq_of_le hk with h1 | h1
  · obtain ⟨ad, hA, hC⟩ := flo_sub h k n h1 (Nat.le_refl _)
    obtain rfl := Option.some.inj hA
    rw [List.take_of_length_le (by omega)] at hC
    have e : (⟨g, 0, none⟩ : Addr).add k = ⟨g, k, none⟩ := by
      unfold Addr.add
      split
      · rename_i h0; rw [h0]
      · simp
    rw [e] at hC
    exact hC
  · subst h1
    exact ⟨by simp; omega, by omega, fun h0 => absurd h0 (by omega)⟩
theorem C_none (w : World) (n : Nat) (h : n = 0) : Kd.C kF w none n [] := ⟨by simp [h], by omega, fun h0 => absurd h0 (by omega)⟩
theorem lit_C (w : World) (x : Nat) : Kd.C kF (w.alloc (.cells #[.float .f64 x] 23)) (some ⟨w.heap.size, 0, none⟩) 1 [x] := by
  refine ⟨rfl, by omega, fun _ => ⟨⟨w.heap.size, 0, none⟩, rfl, fun j p hj => ⟨[.float .f64 p], rfl, rfl, fun i u hi => ?_⟩⟩⟩
  have hj0 : j = 0 := by have := (List.getElem?_eq_some_iff.1 hj).1; simpa using this
  have hi0 : i = 0 := by have := (List.getElem?_eq_some_iff.1 hi).1; simpa using this
  subst hj0 hi0
  obtain rfl : x = p := by simpa using hj
  obtain rfl : Value.float .f64 x = u := by simpa using hi
  show (w.alloc _).cell? (Addr.add ⟨w.heap.size, 0, none⟩ (0 * 1 + 0)) = _
  have e : (w.alloc (.cells #[.float .f64 x] 23)).heap[w.heap.size]? = some (.cells #[.float .f64 x] 23 (0, 0)) := by
    show (w.heap.push _)[w.heap.size]? = _
    simp
  unfold World.cell? Addr.add
  simp only [Nat.zero_mul, Nat.add_zero, if_true, e]
  rfl
theorem row_next {l Z : List Nat} {j k x : Nat} (hx : l[j]? = some x) (hp : Z.Perm (l.take j)) (hs : Srt (Z.take k ++ x :: Z.drop k) ∧ (Z.take k ++ x :: Z.drop k).Perm (x :: Z)) : Srt ([] ++ Z.take k ++ [x] ++ Z.drop k) ∧ ([] ++ Z.take k ++ [x] ++ Z.drop k).Perm (l.take (j + 1)) := by
  have e : [] ++ Z.take k ++ [x] ++ Z.drop k = Z.take k ++ x :: Z.drop k := by simp
  rw [e]
  refine ⟨hs.1, hs.2.trans ?_⟩
  rw [List.take_add_one, hx, Option.toList_some]
  exact (List.perm_append_comm (l₁ := [x])).trans (hp.append_right [x])
set_option maxHeartbeats 8000000 in
set_option maxRecDepth 100000 in
theorem SortR60 {w : World} {A : Option Addr} {c : Nat} {l : List Nat} (N : Nat) (hr : Kd.C kF w A N l) (hN : l.length = N) (hl : N ≤ 60) : Calls Try.prog 33 #[.slice A N c] w fun e w' => ∃ (v : Value) (Z : List Nat), e = .returned v ∧ Srt Z ∧ Z.Perm l ∧ Kd.R kF 23 w' w.heap.size (fun _ => True) v Z ∧ Below w.heap.size w w' := by
  have HR := Aside0.mk hr
  have HL := Aside0.mk hN
  clear hr hN
  go_enter Try.func33, Try.ntmps33
  go_wp2
  go_loopw [3, 4, 5] (fun v i _ wr => ∃ (j : Nat) (v' : Value) (Z : List Nat), v' = v ∧ (j = 0 → v' = .slice none 0 0) ∧ j ≤ N ∧ i = .int .i64 (j : Int) ∧ Srt Z ∧ Z.Perm (l.take j) ∧ Kd.R kF 23 wr w.heap.size (fun _ => True) v' Z ∧ Below w.heap.size w wr) (fun _ i _ _ => N - (intOf i).toNat)
  case atStart => exact ⟨0, _, [], rfl, fun _ => rfl, Nat.zero_le _, rfl, srt_nil, by simp, Kd.R_nil _ _ _ _ _, Below.refl _ _⟩
  case round =>
    obtain ⟨j, v', Z, rfl, hv0, hj, rfl, hs, hp, hR, hb⟩ := hrel
    have RR := Aside0.mk hR
    have HB := Aside0.mk hb
    have SS := Aside0.mk hs
    have PP := Aside0.mk hp
    have zl : Z.length = min j N := by rw [hp.length_eq, List.length_take, HL.out]
    clear hR hb hs hp
    by_cases hlt : j < N
    · obtain ⟨ad, x, hA, hx, hcx⟩ := flo_at HR.out j hlt
      have CX := Aside0.mk hcx
      have HX := Aside0.mk hx
      subst hA
      clear hx hcx
      have zl : Z.length = j := by omega
      obtain ⟨wq, hwq⟩ : ∃ wq, wq = wr := ⟨_, rfl⟩
      subst hwq
      rcases Nat.eq_zero_or_pos j with hj0 | hj0
      · have hv := hv0 hj0
        subst hv
        have J0 := Aside0.mk hj0
        have hZ := List.eq_nil_of_length_eq_zero (zl.trans hj0)
        subst hZ
        have C3 := Aside0.mk (C_none wq 0 rfl)
        clear hv0 hj0 zl
        go_wp2
        go_loopw [5] (fun vk ws => vk = .int .i64 0 ∧ Below wq.heap.size wq ws) (fun vk _ => (intOf vk).toNat)
        case atStart => exact ⟨rfl, Below.refl _ _⟩
        case round =>
          obtain ⟨rfl, hb2⟩ := hrel
          have HB2 := Aside0.mk hb2
          clear hb2
          have C1 := Aside0.mk (cell_b HB2.out (cell_b HB.out CX.out))
          go_wp2
          refine wp_region_text (fun W => Below wr.heap.size wr W) (fun i => [12].contains i) (by kernel_rfl) (by kernel_rfl) ((Below.refl wr.heap.size _).drew) ?_
          have JI := Aside0.mk ((Below.refl wr.heap.size wr).drew)
          have HD := Aside0.mk ((HB2.out.trans (Below.refl wq.heap.size wr).drew))
          generalize wr.drew = wd at JI HD ⊢
          repeat (first
            | ((first | refine S_off (wanted_no (b := true) rfl rfl (by rfl)) JI.out ?_ | refine S_off (wanted_no (b := false) rfl rfl (by rfl)) JI.out ?_); go_frame)
            | ((apply S_val rfl; (first | exact wanted_none rfl | exact wanted_yes rfl rfl (by kernel_rfl)); (intro W hW R hR; have z0 := cell_b hW C1.out; go_simp; exact hR)); go_frame))
          apply S_nil
          have CD := Aside0.mk (Kd.C_below C3.out HD.out)
          have RD := Aside0.mk (Kd.R_below RR.out HD.out)
          have BD := Aside0.mk (HB.out.trans (HD.out.mono HB.out.size))
          have C1 := Aside0.mk (cell_b BD.out CX.out)
          clear JI HD
          go_wp2
          refine wp_region_two (fun W => Below wd.heap.size wd W) (fun i => [3, 8, 9, 13].contains i) 3 8 [0, 1, 2, 4, 5, 6, 7, 8, 3, 9, 10, 11, 12, 13, 14] (by kernel_rfl) (by kernel_rfl) ((Below.refl wd.heap.size _).drew) ?_ ?_
          · have JI := Aside0.mk ((Below.refl wd.heap.size wd).drew)
            have CE := Aside0.mk (Kd.C_below CD.out JI.out)
            generalize wd.drew = we at JI CE ⊢
            repeat (first
              | ((apply S_val rfl; (first | exact wanted_none rfl | exact wanted_yes rfl rfl (by kernel_rfl)); (intro W hW R hR; have z0 := cell_b hW C1.out; go_simp; exact hR)); go_frame)
              | ((refine S_list rfl ?_ ?_; (first | exact wanted_none rfl | exact wanted_yes rfl rfl (by kernel_rfl))); refine Kd.R_append_rows kF (w0 := wd) wd.heap.size rfl (.const (.slice none 0 0)) (.tmp 32) 22 23 (.float .f64 0) 8 rfl Try.underlying22 info_f64 rfl (by decide) (by omega) (.slice none 0 0) [] (([] : List Nat)) none 0 0 (fun _ => True) (fun _ => False) rfl rfl (Kd.R_nil _ _ _ _ _) (C_none _ 0 rfl) (fun _ _ h => h) (fun _ h => h.elim) (fun _ _ => trivial) JI.out JI.out.size (by (simp <;> omega)) ?_; intro v5 w5 hO5 hb5 hg5 hn5; have R5 := Aside0.mk hO5; have B5 := Aside0.mk hb5; clear hO5 hb5 hg5 hn5; refine L_end B5.out ?_; go_frame)
              | ((refine S_make (v := .slice (some ⟨w5.heap.size, 0, none⟩) 1 1) (w' := w5.alloc (.cells #[.float .f64 x] 23)) rfl ?_ ?_ (B5.out.alloc B5.out.size _) ?_; (first | exact wanted_none rfl | exact wanted_yes rfl rfl (by kernel_rfl)); (focus (first | (go_simp; done) | (go_simp; rfl)))); go_frame)
              | ((refine S_list rfl ?_ ?_; (first | exact wanted_none rfl | exact wanted_yes rfl rfl (by kernel_rfl))); refine Kd.R_append kF (w0 := wd) wd.heap.size rfl (.tmp 33) (.tmp 38) 22 23 (.float .f64 0) 8 rfl Try.underlying22 info_f64 rfl (by decide) (by omega) v5 ([] ++ ([] : List Nat)) x [.float .f64 x] (fun _ => True) (fun _ => False) rfl rfl rfl (fun _ hk => hk.elim) (fun _ _ => trivial) R5.out B5.out B5.out.size (by (simp <;> omega)) ?_; intro v6 w6 hO6 hb6 hg6 hn6; have R6 := Aside0.mk hO6; have B6 := Aside0.mk hb6; clear hO6 hb6 hg6 hn6; refine L_end B6.out ?_; go_frame)
              | ((refine S_list rfl ?_ ?_; (first | exact wanted_none rfl | exact wanted_yes rfl rfl (by kernel_rfl))); refine Kd.R_append_rows kF (w0 := wd) wd.heap.size rfl (.tmp 39) (.tmp 42) 22 23 (.float .f64 0) 8 rfl Try.underlying22 info_f64 rfl (by decide) (by omega) v6 ([] ++ ([] : List Nat) ++ [x]) (([] : List Nat)) none 0 0 (fun _ => True) (fun _ => False) rfl rfl R6.out (C_none _ 0 rfl) (fun _ _ h => h) (fun _ h => h.elim) (fun _ _ => trivial) B6.out B6.out.size (by (simp <;> omega)) ?_; intro v7 w7 hO7 hb7 hg7 hn7; have R7 := Aside0.mk hO7; have B7 := Aside0.mk hb7; clear hO7 hb7 hg7 hn7; refine L_end B7.out ?_; go_frame))
            apply S_nil
            have PS := Aside0.mk (put_srt (Y := []) srt_nil x 0 (by simp) (by simp))
            have B8 := Aside0.mk (BD.out.trans ((B7.out.mono BD.out.size)))
            have R8 := Aside0.mk (Kd.R_lower R7.out BD.out.size)
            go_wp2
            go_roundw
            case rel =>
              have RN := row_next (Z := []) (k := 0) HX.out PP.out PS.out
              exact ⟨j + 1, v7, _, rfl, fun h => absurd h (by omega), hlt, by go_num, RN.1, RN.2, R8.out, B8.out⟩
            case measure =>
              simp [intOf]
              go_num
          · have JI := Aside0.mk ((Below.refl wd.heap.size wd).drew)
            have CE := Aside0.mk (Kd.C_below CD.out JI.out)
            generalize wd.drew = we at JI CE ⊢
            repeat (first
              | ((apply C_val rfl rfl; (first | exact wanted_none rfl | exact wanted_yes rfl rfl (by kernel_rfl)); (intro W hW R hR; have z0 := cell_b hW C1.out; go_simp; exact hR)); go_frame))
            refine C_make (v := .slice (some ⟨we.heap.size, 0, none⟩) 1 1) (w' := we.alloc (.cells #[.float .f64 x] 23)) rfl rfl ?_ ?_ (JI.out.alloc JI.out.size _) ?_
            · (first | exact wanted_none rfl | exact wanted_yes rfl rfl (by kernel_rfl))
            · first | (go_simp; done) | (go_simp; rfl)
            have CL := Aside0.mk (lit_C we x)
            have JL := Aside0.mk (JI.out.alloc JI.out.size (.cells #[.float .f64 x] 23))
            have CL3 := Aside0.mk (Kd.C_below CE.out ((Below.refl we.heap.size we).alloc (Nat.le_refl _) (.cells #[.float .f64 x] 23)))
            generalize we.alloc (.cells #[.float .f64 x] 23) = wl at CL JL CL3 ⊢
            generalize we.heap.size = q0 at CL ⊢
            go_frame
            repeat (first
              | ((apply C_val rfl rfl; (first | exact wanted_none rfl | exact wanted_yes rfl rfl (by kernel_rfl)); (intro W hW R hR; have z0 := cell_b hW C1.out; go_simp; exact hR)); go_frame)
              | ((refine C_list rfl rfl ?_ ?_; (first | exact wanted_none rfl | exact wanted_yes rfl rfl (by kernel_rfl))); refine Kd.R_append_rows kF (w0 := wl) wl.heap.size rfl (.const (.slice none 0 0)) (.tmp 32) 22 23 (.float .f64 0) 8 rfl Try.underlying22 info_f64 rfl (by decide) (by omega) (.slice none 0 0) [] (([] : List Nat)) none 0 0 (fun _ => True) (fun _ => False) rfl rfl (Kd.R_nil _ _ _ _ _) (C_none _ 0 rfl) (fun _ _ h => h) (fun _ h => h.elim) (fun _ _ => trivial) (Below.refl _ _) (Nat.le_refl _) (by (simp <;> omega)) ?_; intro v5 w5 hO5 hb5 hg5 hn5; have R5 := Aside0.mk hO5; have B5 := Aside0.mk hb5; clear hO5 hb5 hg5 hn5; refine C_end (JL.out.trans (B5.out.mono JL.out.size)) ?_; go_frame)
              | ((refine C_list rfl rfl ?_ ?_; (first | exact wanted_none rfl | exact wanted_yes rfl rfl (by kernel_rfl))); refine Kd.R_append_rows kF (w0 := wl) wl.heap.size rfl (.tmp 33) (.tmp 38) 22 23 (.float .f64 0) 8 rfl Try.underlying22 info_f64 rfl (by decide) (by omega) v5 ([] ++ ([] : List Nat)) [x] (some ⟨q0, 0, none⟩) 1 1 (fun _ => True) (fun _ => False) rfl rfl R5.out (Kd.C_below CL.out B5.out) (fun _ _ h => h) (fun _ h => h.elim) (fun _ _ => trivial) B5.out B5.out.size (by (simp <;> omega)) ?_; intro v6 w6 hO6 hb6 hg6 hn6; have R6 := Aside0.mk hO6; have B6 := Aside0.mk hb6; clear hO6 hb6 hg6 hn6; refine C_end (JL.out.trans (B6.out.mono JL.out.size)) ?_; go_frame)
              | ((refine C_list rfl rfl ?_ ?_; (first | exact wanted_none rfl | exact wanted_yes rfl rfl (by kernel_rfl))); refine Kd.R_append_rows kF (w0 := wl) wl.heap.size rfl (.tmp 39) (.tmp 42) 22 23 (.float .f64 0) 8 rfl Try.underlying22 info_f64 rfl (by decide) (by omega) v6 ([] ++ ([] : List Nat) ++ [x]) (([] : List Nat)) none 0 0 (fun _ => True) (fun _ => False) rfl rfl R6.out (C_none _ 0 rfl) (fun _ _ h => h) (fun _ h => h.elim) (fun _ _ => trivial) B6.out B6.out.size (by (simp <;> omega)) ?_; intro v7 w7 hO7 hb7 hg7 hn7; have R7 := Aside0.mk hO7; have B7 := Aside0.mk hb7; clear hO7 hb7 hg7 hn7; refine C_end (JL.out.trans (B7.out.mono JL.out.size)) ?_; go_frame))
            apply C_nil
            have PS := Aside0.mk (put_srt (Y := []) srt_nil x 0 (by simp) (by simp))
            have B8 := Aside0.mk (BD.out.trans ((JL.out.trans (B7.out.mono JL.out.size)).mono BD.out.size))
            have R8 := Aside0.mk (Kd.R_lower R7.out (Nat.le_trans BD.out.size JL.out.size))
            go_wp2
            go_roundw
            case rel =>
              have RN := row_next (Z := []) (k := 0) HX.out PP.out PS.out
              exact ⟨j + 1, v7, _, rfl, fun h => absurd h (by omega), hlt, by go_num, RN.1, RN.2, R8.out, B8.out⟩
            case measure =>
              simp [intOf]
              go_num
      · obtain ⟨g3, c3, ev, hC3, hc3⟩ := R_read j zl hj0 RR.out
        subst ev
        have C3 := Aside0.mk hC3
        clear hC3 hv0
        go_wp2
        go_loopw [5] (fun vk ws => ∃ (k : Nat), vk = .int .i64 (k : Int) ∧ k ≤ j ∧ (∀ z ∈ Z.drop k, key x ≤ key z) ∧ Below wq.heap.size wq ws) (fun vk _ => (intOf vk).toNat)
        case atStart => exact ⟨j, rfl, Nat.le_refl _, by rw [List.drop_of_length_le (by omega)]; intro z hz; simp at hz, Below.refl _ _⟩
        case round =>
          obtain ⟨k, rfl, hkj, hhi, hb2⟩ := hrel
          have HB2 := Aside0.mk hb2
          have HI := Aside0.mk hhi
          clear hb2 hhi
          have C1 := Aside0.mk (cell_b HB2.out (cell_b HB.out CX.out))
          have hkc : k ≤ c3 := by omega
          obtain ⟨A9, hA9, hC9⟩ : ∃ A9 : Option Addr, (if c3 = k then some ({ block := g3, off := 0 } : Addr) else some ({ block := g3, off := k } : Addr)) = A9 ∧ ∀ W, Kd.C kF W (some ⟨g3, 0, none⟩) j Z → Kd.C kF W A9 (j - k) (Z.drop k) := by
            refine ⟨_, rfl, fun W hW => ?_⟩
            split
            · have hjk : j - k = 0 := by omega
              rw [hjk]
              exact ⟨by simp; omega, by omega, fun h0 => absurd h0 (by omega)⟩
            · exact flo_tail hW k (by omega)
          have C9 := Aside0.mk hC9
          clear hC9
          have hwk : IntKind.i64.wrap (k : Int) = (k : Int) := IntWalk.i64_in _ (by omega)
          by_cases hk0 : k = 0
          · have gk : decide (0 < k) = false := decide_eq_false (by omega)
            have LO := Aside0.mk (show ∀ z ∈ Z.take k, key z ≤ key x by rw [hk0]; intro z hz; simp at hz)
            clear hk0
            go_wp2
            refine wp_region_text (fun W => Below wr.heap.size wr W) (fun i => [12].contains i) (by kernel_rfl) (by kernel_rfl) ((Below.refl wr.heap.size _).drew) ?_
            have JI := Aside0.mk ((Below.refl wr.heap.size wr).drew)
            have HD := Aside0.mk ((HB2.out.trans (Below.refl wq.heap.size wr).drew))
            generalize wr.drew = wd at JI HD ⊢
            repeat (first
              | ((first | refine S_off (wanted_no (b := true) rfl rfl (by rfl)) JI.out ?_ | refine S_off (wanted_no (b := false) rfl rfl (by rfl)) JI.out ?_); go_frame)
              | ((apply S_val rfl; (first | exact wanted_none rfl | exact wanted_yes rfl rfl (by kernel_rfl)); (intro W hW R hR; have z0 := cell_b hW C1.out; go_simp; exact hR)); go_frame))
            apply S_nil
            have CD := Aside0.mk (Kd.C_below C3.out HD.out)
            have RD := Aside0.mk (Kd.R_below RR.out HD.out)
            have BD := Aside0.mk (HB.out.trans (HD.out.mono HB.out.size))
            have C1 := Aside0.mk (cell_b BD.out CX.out)
            clear JI HD
            go_wp2
            refine wp_region_two (fun W => Below wd.heap.size wd W) (fun i => [3, 8, 9, 13].contains i) 3 8 [0, 1, 2, 4, 5, 6, 7, 8, 3, 9, 10, 11, 12, 13, 14] (by kernel_rfl) (by kernel_rfl) ((Below.refl wd.heap.size _).drew) ?_ ?_
            · have JI := Aside0.mk ((Below.refl wd.heap.size wd).drew)
              have CE := Aside0.mk (Kd.C_below CD.out JI.out)
              generalize wd.drew = we at JI CE ⊢
              repeat (first
                | ((apply S_val rfl; (first | exact wanted_none rfl | exact wanted_yes rfl rfl (by kernel_rfl)); (intro W hW R hR; have z0 := cell_b hW C1.out; go_simp; exact hR)); go_frame)
                | ((refine S_list rfl ?_ ?_; (first | exact wanted_none rfl | exact wanted_yes rfl rfl (by kernel_rfl))); refine Kd.R_append_rows kF (w0 := wd) wd.heap.size rfl (.const (.slice none 0 0)) (.tmp 32) 22 23 (.float .f64 0) 8 rfl Try.underlying22 info_f64 rfl (by decide) (by omega) (.slice none 0 0) [] (Z.take k) (some ⟨g3, 0, none⟩) k c3 (fun _ => True) (fun _ => False) rfl rfl (Kd.R_nil _ _ _ _ _) (flo_take CE.out k (by omega)) (fun _ _ h => h) (fun _ h => h.elim) (fun _ _ => trivial) JI.out JI.out.size (by (simp <;> omega)) ?_; intro v5 w5 hO5 hb5 hg5 hn5; have R5 := Aside0.mk hO5; have B5 := Aside0.mk hb5; clear hO5 hb5 hg5 hn5; refine L_end B5.out ?_; go_frame)
                | ((refine S_make (v := .slice (some ⟨w5.heap.size, 0, none⟩) 1 1) (w' := w5.alloc (.cells #[.float .f64 x] 23)) rfl ?_ ?_ (B5.out.alloc B5.out.size _) ?_; (first | exact wanted_none rfl | exact wanted_yes rfl rfl (by kernel_rfl)); (focus (first | (go_simp; done) | (go_simp; rfl)))); go_frame)
                | ((refine S_list rfl ?_ ?_; (first | exact wanted_none rfl | exact wanted_yes rfl rfl (by kernel_rfl))); refine Kd.R_append kF (w0 := wd) wd.heap.size rfl (.tmp 33) (.tmp 38) 22 23 (.float .f64 0) 8 rfl Try.underlying22 info_f64 rfl (by decide) (by omega) v5 ([] ++ Z.take k) x [.float .f64 x] (fun _ => True) (fun _ => False) rfl rfl rfl (fun _ hk => hk.elim) (fun _ _ => trivial) R5.out B5.out B5.out.size (by (simp <;> omega)) ?_; intro v6 w6 hO6 hb6 hg6 hn6; have R6 := Aside0.mk hO6; have B6 := Aside0.mk hb6; clear hO6 hb6 hg6 hn6; refine L_end B6.out ?_; go_frame)
                | ((refine S_list rfl ?_ ?_; (first | exact wanted_none rfl | exact wanted_yes rfl rfl (by kernel_rfl))); refine Kd.R_append_rows kF (w0 := wd) wd.heap.size rfl (.tmp 39) (.tmp 42) 22 23 (.float .f64 0) 8 rfl Try.underlying22 info_f64 rfl (by decide) (by omega) v6 ([] ++ Z.take k ++ [x]) (Z.drop k) A9 (j - k) (c3 - k) (fun _ => True) (fun _ => False) rfl rfl R6.out (C9.out _ (Kd.C_below CD.out B6.out)) (fun _ _ h => h) (fun _ h => h.elim) (fun _ _ => trivial) B6.out B6.out.size (by (simp <;> omega)) ?_; intro v7 w7 hO7 hb7 hg7 hn7; have R7 := Aside0.mk hO7; have B7 := Aside0.mk hb7; clear hO7 hb7 hg7 hn7; refine L_end B7.out ?_; go_frame))
              apply S_nil
              have PS := Aside0.mk (put_srt SS.out x k LO.out HI.out)
              have B8 := Aside0.mk (BD.out.trans ((B7.out.mono BD.out.size)))
              have R8 := Aside0.mk (Kd.R_lower R7.out BD.out.size)
              go_wp2
              go_roundw
              case rel =>
                have RN := row_next HX.out PP.out PS.out
                exact ⟨j + 1, v7, _, rfl, fun h => absurd h (by omega), hlt, by go_num, RN.1, RN.2, R8.out, B8.out⟩
              case measure =>
                simp [intOf]
                go_num
            · have JI := Aside0.mk ((Below.refl wd.heap.size wd).drew)
              have CE := Aside0.mk (Kd.C_below CD.out JI.out)
              generalize wd.drew = we at JI CE ⊢
              repeat (first
                | ((apply C_val rfl rfl; (first | exact wanted_none rfl | exact wanted_yes rfl rfl (by kernel_rfl)); (intro W hW R hR; have z0 := cell_b hW C1.out; go_simp; exact hR)); go_frame))
              refine C_make (v := .slice (some ⟨we.heap.size, 0, none⟩) 1 1) (w' := we.alloc (.cells #[.float .f64 x] 23)) rfl rfl ?_ ?_ (JI.out.alloc JI.out.size _) ?_
              · (first | exact wanted_none rfl | exact wanted_yes rfl rfl (by kernel_rfl))
              · first | (go_simp; done) | (go_simp; rfl)
              have CL := Aside0.mk (lit_C we x)
              have JL := Aside0.mk (JI.out.alloc JI.out.size (.cells #[.float .f64 x] 23))
              have CL3 := Aside0.mk (Kd.C_below CE.out ((Below.refl we.heap.size we).alloc (Nat.le_refl _) (.cells #[.float .f64 x] 23)))
              generalize we.alloc (.cells #[.float .f64 x] 23) = wl at CL JL CL3 ⊢
              generalize we.heap.size = q0 at CL ⊢
              go_frame
              repeat (first
                | ((apply C_val rfl rfl; (first | exact wanted_none rfl | exact wanted_yes rfl rfl (by kernel_rfl)); (intro W hW R hR; have z0 := cell_b hW C1.out; go_simp; exact hR)); go_frame)
                | ((refine C_list rfl rfl ?_ ?_; (first | exact wanted_none rfl | exact wanted_yes rfl rfl (by kernel_rfl))); refine Kd.R_append_rows kF (w0 := wl) wl.heap.size rfl (.const (.slice none 0 0)) (.tmp 32) 22 23 (.float .f64 0) 8 rfl Try.underlying22 info_f64 rfl (by decide) (by omega) (.slice none 0 0) [] (Z.take k) (some ⟨g3, 0, none⟩) k c3 (fun _ => True) (fun _ => False) rfl rfl (Kd.R_nil _ _ _ _ _) (flo_take CL3.out k (by omega)) (fun _ _ h => h) (fun _ h => h.elim) (fun _ _ => trivial) (Below.refl _ _) (Nat.le_refl _) (by (simp <;> omega)) ?_; intro v5 w5 hO5 hb5 hg5 hn5; have R5 := Aside0.mk hO5; have B5 := Aside0.mk hb5; clear hO5 hb5 hg5 hn5; refine C_end (JL.out.trans (B5.out.mono JL.out.size)) ?_; go_frame)
                | ((refine C_list rfl rfl ?_ ?_; (first | exact wanted_none rfl | exact wanted_yes rfl rfl (by kernel_rfl))); refine Kd.R_append_rows kF (w0 := wl) wl.heap.size rfl (.tmp 33) (.tmp 38) 22 23 (.float .f64 0) 8 rfl Try.underlying22 info_f64 rfl (by decide) (by omega) v5 ([] ++ Z.take k) [x] (some ⟨q0, 0, none⟩) 1 1 (fun _ => True) (fun _ => False) rfl rfl R5.out (Kd.C_below CL.out B5.out) (fun _ _ h => h) (fun _ h => h.elim) (fun _ _ => trivial) B5.out B5.out.size (by (simp <;> omega)) ?_; intro v6 w6 hO6 hb6 hg6 hn6; have R6 := Aside0.mk hO6; have B6 := Aside0.mk hb6; clear hO6 hb6 hg6 hn6; refine C_end (JL.out.trans (B6.out.mono JL.out.size)) ?_; go_frame)
                | ((refine C_list rfl rfl ?_ ?_; (first | exact wanted_none rfl | exact wanted_yes rfl rfl (by kernel_rfl))); refine Kd.R_append_rows kF (w0 := wl) wl.heap.size rfl (.tmp 39) (.tmp 42) 22 23 (.float .f64 0) 8 rfl Try.underlying22 info_f64 rfl (by decide) (by omega) v6 ([] ++ Z.take k ++ [x]) (Z.drop k) A9 (j - k) (c3 - k) (fun _ => True) (fun _ => False) rfl rfl R6.out (C9.out _ (Kd.C_below CL3.out B6.out)) (fun _ _ h => h) (fun _ h => h.elim) (fun _ _ => trivial) B6.out B6.out.size (by (simp <;> omega)) ?_; intro v7 w7 hO7 hb7 hg7 hn7; have R7 := Aside0.mk hO7; have B7 := Aside0.mk hb7; clear hO7 hb7 hg7 hn7; refine C_end (JL.out.trans (B7.out.mono JL.out.size)) ?_; go_frame))
              apply C_nil
              have PS := Aside0.mk (put_srt SS.out x k LO.out HI.out)
              have B8 := Aside0.mk (BD.out.trans ((JL.out.trans (B7.out.mono JL.out.size)).mono BD.out.size))
              have R8 := Aside0.mk (Kd.R_lower R7.out (Nat.le_trans BD.out.size JL.out.size))
              go_wp2
              go_roundw
              case rel =>
                have RN := row_next HX.out PP.out PS.out
                exact ⟨j + 1, v7, _, rfl, fun h => absurd h (by omega), hlt, by go_num, RN.1, RN.2, R8.out, B8.out⟩
              case measure =>
                simp [intOf]
                go_num
          · obtain ⟨k1, hk1⟩ : ∃ k1, k1 + 1 = k := ⟨k - 1, by omega⟩
            obtain ⟨z, hz⟩ : ∃ z, Z[k1]? = some z := ⟨_, List.getElem?_eq_getElem (by omega)⟩
            have HZ := Aside0.mk hz
            have C2 := Aside0.mk (cell_b HB2.out (flo_cell C3.out k1 (by omega) hz))
            have gk : decide (0 < k) = true := decide_eq_true (by omega)
            have ek : (k : Int) - 1 = (k1 : Int) := by omega
            have hwk1 : IntKind.i64.wrap (k1 : Int) = (k1 : Int) := IntWalk.i64_in _ (by omega)
            have hk1j : k1 < j := by omega
            have HK1 := Aside0.mk hk1
            clear hz hk0 hk1
            obtain ⟨t, ht⟩ : ∃ t, decide (key x < key z) = t := ⟨_, rfl⟩
            have TT := Aside0.mk ht
            clear ht
            cases t with
            | true =>
              go_wp2
              refine wp_region_text (fun W => Below wr.heap.size wr W) (fun i => [12].contains i) (by kernel_rfl) (by kernel_rfl) ((Below.refl wr.heap.size _).drew) ?_
              have JI := Aside0.mk ((Below.refl wr.heap.size wr).drew)
              have HD := Aside0.mk ((HB2.out.trans (Below.refl wq.heap.size wr).drew))
              generalize wr.drew = wd at JI HD ⊢
              repeat (first
                | ((first | refine S_off (wanted_no (b := true) rfl rfl (by rfl)) JI.out ?_ | refine S_off (wanted_no (b := false) rfl rfl (by rfl)) JI.out ?_); go_frame)
                | ((refine S_call rfl ?_ ?_ (Ahead_as _ x z _ TT.out) ?_; (first | exact wanted_none rfl | exact wanted_yes rfl rfl (by kernel_rfl)); (focus (first | (go_simp; done) | (go_simp; rfl)))); rintro e wn ⟨rfl, rfl⟩; refine ⟨_, rfl, JI.out, ?_⟩; go_frame)
                | ((apply S_val rfl; (first | exact wanted_none rfl | exact wanted_yes rfl rfl (by kernel_rfl)); (intro W hW R hR; have z0 := cell_b hW C1.out; have z1 := cell_b hW C2.out; go_simp; exact hR)); go_frame))
              apply S_nil
              go_wp2
              go_roundw
              case rel =>
                refine ⟨k1, rfl, by omega, drop_all SS.out (fun y => key x ≤ key y) (fun p q h1 h2 => by omega) HZ.out (by have := of_decide_eq_true TT.out; omega), HD.out⟩
              case measure =>
                have := HK1.out
                simp [intOf]
                go_num
            | false =>
              have LO := Aside0.mk (show ∀ y ∈ Z.take k, key y ≤ key x by
                rw [← HK1.out]
                exact take_all SS.out (fun y => key y ≤ key x) (fun p q h1 h2 => by omega) HZ.out (by have := of_decide_eq_false TT.out; omega))
              go_wp2
              refine wp_region_text (fun W => Below wr.heap.size wr W) (fun i => [12].contains i) (by kernel_rfl) (by kernel_rfl) ((Below.refl wr.heap.size _).drew) ?_
              have JI := Aside0.mk ((Below.refl wr.heap.size wr).drew)
              have HD := Aside0.mk ((HB2.out.trans (Below.refl wq.heap.size wr).drew))
              generalize wr.drew = wd at JI HD ⊢
              repeat (first
                | ((first | refine S_off (wanted_no (b := true) rfl rfl (by rfl)) JI.out ?_ | refine S_off (wanted_no (b := false) rfl rfl (by rfl)) JI.out ?_); go_frame)
                | ((refine S_call rfl ?_ ?_ (Ahead_as _ x z _ TT.out) ?_; (first | exact wanted_none rfl | exact wanted_yes rfl rfl (by kernel_rfl)); (focus (first | (go_simp; done) | (go_simp; rfl)))); rintro e wn ⟨rfl, rfl⟩; refine ⟨_, rfl, JI.out, ?_⟩; go_frame)
                | ((apply S_val rfl; (first | exact wanted_none rfl | exact wanted_yes rfl rfl (by kernel_rfl)); (intro W hW R hR; have z0 := cell_b hW C1.out; have z1 := cell_b hW C2.out; go_simp; exact hR)); go_frame))
              apply S_nil
              have CD := Aside0.mk (Kd.C_below C3.out HD.out)
              have RD := Aside0.mk (Kd.R_below RR.out HD.out)
              have BD := Aside0.mk (HB.out.trans (HD.out.mono HB.out.size))
              have C1 := Aside0.mk (cell_b BD.out CX.out)
              clear JI HD
              go_wp2
              refine wp_region_two (fun W => Below wd.heap.size wd W) (fun i => [3, 8, 9, 13].contains i) 3 8 [0, 1, 2, 4, 5, 6, 7, 8, 3, 9, 10, 11, 12, 13, 14] (by kernel_rfl) (by kernel_rfl) ((Below.refl wd.heap.size _).drew) ?_ ?_
              · have JI := Aside0.mk ((Below.refl wd.heap.size wd).drew)
                have CE := Aside0.mk (Kd.C_below CD.out JI.out)
                generalize wd.drew = we at JI CE ⊢
                repeat (first
                  | ((apply S_val rfl; (first | exact wanted_none rfl | exact wanted_yes rfl rfl (by kernel_rfl)); (intro W hW R hR; have z0 := cell_b hW C1.out; go_simp; exact hR)); go_frame)
                  | ((refine S_list rfl ?_ ?_; (first | exact wanted_none rfl | exact wanted_yes rfl rfl (by kernel_rfl))); refine Kd.R_append_rows kF (w0 := wd) wd.heap.size rfl (.const (.slice none 0 0)) (.tmp 32) 22 23 (.float .f64 0) 8 rfl Try.underlying22 info_f64 rfl (by decide) (by omega) (.slice none 0 0) [] (Z.take k) (some ⟨g3, 0, none⟩) k c3 (fun _ => True) (fun _ => False) rfl rfl (Kd.R_nil _ _ _ _ _) (flo_take CE.out k (by omega)) (fun _ _ h => h) (fun _ h => h.elim) (fun _ _ => trivial) JI.out JI.out.size (by (simp <;> omega)) ?_; intro v5 w5 hO5 hb5 hg5 hn5; have R5 := Aside0.mk hO5; have B5 := Aside0.mk hb5; clear hO5 hb5 hg5 hn5; refine L_end B5.out ?_; go_frame)
                  | ((refine S_make (v := .slice (some ⟨w5.heap.size, 0, none⟩) 1 1) (w' := w5.alloc (.cells #[.float .f64 x] 23)) rfl ?_ ?_ (B5.out.alloc B5.out.size _) ?_; (first | exact wanted_none rfl | exact wanted_yes rfl rfl (by kernel_rfl)); (focus (first | (go_simp; done) | (go_simp; rfl)))); go_frame)
                  | ((refine S_list rfl ?_ ?_; (first | exact wanted_none rfl | exact wanted_yes rfl rfl (by kernel_rfl))); refine Kd.R_append kF (w0 := wd) wd.heap.size rfl (.tmp 33) (.tmp 38) 22 23 (.float .f64 0) 8 rfl Try.underlying22 info_f64 rfl (by decide) (by omega) v5 ([] ++ Z.take k) x [.float .f64 x] (fun _ => True) (fun _ => False) rfl rfl rfl (fun _ hk => hk.elim) (fun _ _ => trivial) R5.out B5.out B5.out.size (by (simp <;> omega)) ?_; intro v6 w6 hO6 hb6 hg6 hn6; have R6 := Aside0.mk hO6; have B6 := Aside0.mk hb6; clear hO6 hb6 hg6 hn6; refine L_end B6.out ?_; go_frame)
                  | ((refine S_list rfl ?_ ?_; (first | exact wanted_none rfl | exact wanted_yes rfl rfl (by kernel_rfl))); refine Kd.R_append_rows kF (w0 := wd) wd.heap.size rfl (.tmp 39) (.tmp 42) 22 23 (.float .f64 0) 8 rfl Try.underlying22 info_f64 rfl (by decide) (by omega) v6 ([] ++ Z.take k ++ [x]) (Z.drop k) A9 (j - k) (c3 - k) (fun _ => True) (fun _ => False) rfl rfl R6.out (C9.out _ (Kd.C_below CD.out B6.out)) (fun _ _ h => h) (fun _ h => h.elim) (fun _ _ => trivial) B6.out B6.out.size (by (simp <;> omega)) ?_; intro v7 w7 hO7 hb7 hg7 hn7; have R7 := Aside0.mk hO7; have B7 := Aside0.mk hb7; clear hO7 hb7 hg7 hn7; refine L_end B7.out ?_; go_frame))
                apply S_nil
                have PS := Aside0.mk (put_srt SS.out x k LO.out HI.out)
                have B8 := Aside0.mk (BD.out.trans ((B7.out.mono BD.out.size)))
                have R8 := Aside0.mk (Kd.R_lower R7.out BD.out.size)
                go_wp2
                go_roundw
                case rel =>
                  have RN := row_next HX.out PP.out PS.out
                  exact ⟨j + 1, v7, _, rfl, fun h => absurd h (by omega), hlt, by go_num, RN.1, RN.2, R8.out, B8.out⟩
                case measure =>
                  simp [intOf]
                  go_num
              · have JI := Aside0.mk ((Below.refl wd.heap.size wd).drew)
                have CE := Aside0.mk (Kd.C_below CD.out JI.out)
                generalize wd.drew = we at JI CE ⊢
                repeat (first
                  | ((apply C_val rfl rfl; (first | exact wanted_none rfl | exact wanted_yes rfl rfl (by kernel_rfl)); (intro W hW R hR; have z0 := cell_b hW C1.out; go_simp; exact hR)); go_frame))
                refine C_make (v := .slice (some ⟨we.heap.size, 0, none⟩) 1 1) (w' := we.alloc (.cells #[.float .f64 x] 23)) rfl rfl ?_ ?_ (JI.out.alloc JI.out.size _) ?_
                · (first | exact wanted_none rfl | exact wanted_yes rfl rfl (by kernel_rfl))
                · first | (go_simp; done) | (go_simp; rfl)
                have CL := Aside0.mk (lit_C we x)
                have JL := Aside0.mk (JI.out.alloc JI.out.size (.cells #[.float .f64 x] 23))
                have CL3 := Aside0.mk (Kd.C_below CE.out ((Below.refl we.heap.size we).alloc (Nat.le_refl _) (.cells #[.float .f64 x] 23)))
                generalize we.alloc (.cells #[.float .f64 x] 23) = wl at CL JL CL3 ⊢
                generalize we.heap.size = q0 at CL ⊢
                go_frame
                repeat (first
                  | ((apply C_val rfl rfl; (first | exact wanted_none rfl | exact wanted_yes rfl rfl (by kernel_rfl)); (intro W hW R hR; have z0 := cell_b hW C1.out; go_simp; exact hR)); go_frame)
                  | ((refine C_list rfl rfl ?_ ?_; (first | exact wanted_none rfl | exact wanted_yes rfl rfl (by kernel_rfl))); refine Kd.R_append_rows kF (w0 := wl) wl.heap.size rfl (.const (.slice none 0 0)) (.tmp 32) 22 23 (.float .f64 0) 8 rfl Try.underlying22 info_f64 rfl (by decide) (by omega) (.slice none 0 0) [] (Z.take k) (some ⟨g3, 0, none⟩) k c3 (fun _ => True) (fun _ => False) rfl rfl (Kd.R_nil _ _ _ _ _) (flo_take CL3.out k (by omega)) (fun _ _ h => h) (fun _ h => h.elim) (fun _ _ => trivial) (Below.refl _ _) (Nat.le_refl _) (by (simp <;> omega)) ?_; intro v5 w5 hO5 hb5 hg5 hn5; have R5 := Aside0.mk hO5; have B5 := Aside0.mk hb5; clear hO5 hb5 hg5 hn5; refine C_end (JL.out.trans (B5.out.mono JL.out.size)) ?_; go_frame)
                  | ((refine C_list rfl rfl ?_ ?_; (first | exact wanted_none rfl | exact wanted_yes rfl rfl (by kernel_rfl))); refine Kd.R_append_rows kF (w0 := wl) wl.heap.size rfl (.tmp 33) (.tmp 38) 22 23 (.float .f64 0) 8 rfl Try.underlying22 info_f64 rfl (by decide) (by omega) v5 ([] ++ Z.take k) [x] (some ⟨q0, 0, none⟩) 1 1 (fun _ => True) (fun _ => False) rfl rfl R5.out (Kd.C_below CL.out B5.out) (fun _ _ h => h) (fun _ h => h.elim) (fun _ _ => trivial) B5.out B5.out.size (by (simp <;> omega)) ?_; intro v6 w6 hO6 hb6 hg6 hn6; have R6 := Aside0.mk hO6; have B6 := Aside0.mk hb6; clear hO6 hb6 hg6 hn6; refine C_end (JL.out.trans (B6.out.mono JL.out.size)) ?_; go_frame)
                  | ((refine C_list rfl rfl ?_ ?_; (first | exact wanted_none rfl | exact wanted_yes rfl rfl (by kernel_rfl))); refine Kd.R_append_rows kF (w0 := wl) wl.heap.size rfl (.tmp 39) (.tmp 42) 22 23 (.float .f64 0) 8 rfl Try.underlying22 info_f64 rfl (by decide) (by omega) v6 ([] ++ Z.take k ++ [x]) (Z.drop k) A9 (j - k) (c3 - k) (fun _ => True) (fun _ => False) rfl rfl R6.out (C9.out _ (Kd.C_below CL3.out B6.out)) (fun _ _ h => h) (fun _ h => h.elim) (fun _ _ => trivial) B6.out B6.out.size (by (simp <;> omega)) ?_; intro v7 w7 hO7 hb7 hg7 hn7; have R7 := Aside0.mk hO7; have B7 := Aside0.mk hb7; clear hO7 hb7 hg7 hn7; refine C_end (JL.out.trans (B7.out.mono JL.out.size)) ?_; go_frame))
                apply C_nil
                have PS := Aside0.mk (put_srt SS.out x k LO.out HI.out)
                have B8 := Aside0.mk (BD.out.trans ((JL.out.trans (B7.out.mono JL.out.size)).mono BD.out.size))
                have R8 := Aside0.mk (Kd.R_lower R7.out (Nat.le_trans BD.out.size JL.out.size))
                go_wp2
                go_roundw
                case rel =>
                  have RN := row_next HX.out PP.out PS.out
                  exact ⟨j + 1, v7, _, rfl, fun h => absurd h (by omega), hlt, by go_num, RN.1, RN.2, R8.out, B8.out⟩
                case measure =>
                  simp [intOf]
                  go_num
    · obtain rfl : j = N := by omega
      clear hj
      go_wp2
      go_returns
      exact ⟨_, Z, rfl, SS.out, by have h_ := PP.out; rw [List.take_of_length_le (by have := HL.out; omega)] at h_; exact h_, RR.out, HB.out⟩
end Go.Proofs.Ytngncegokmppiaa.Flo
