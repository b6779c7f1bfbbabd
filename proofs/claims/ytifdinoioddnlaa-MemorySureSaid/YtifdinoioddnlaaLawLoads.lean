/- A memory with words has just these. -/
import Derived.Handy
import Derived.Test.YtifdinoioddnlaaLawB
import Derived.Test.YtifdinoioddnlaaReg
namespace Go.Proofs.Ytifdinoioddnlaa.Mem
open Go Go.RowKit Go.Proofs.Ytifdinoioddnlaa.ML Go.Proofs.YtifdinoioddnlaaW.PrintWords Go.Proofs.YtifdinoioddnlaaW.PrintLast Go.Proofs.YtifdinoioddnlaaW.PrintMore Go.Proofs.Ytifdinoioddnlaa.Print Go.Proofs.Ytifdinoioddnlaa.Reg
set_option linter.unusedVariables false
set_option linter.unusedSimpArgs false
attribute [local go_sem] max2_int min2_int
theorem Same_loop (l : List Int) (hl : l.length ≤ 9223372036854775806) : ∀ (k i : Nat), l.length - i < k → i ≤ l.length → escritoireref01_Same.l0 k l l i = some true := by
  intro k
  induction k with
  | zero => intro i h; omega
  | succ k ih =>
    intro i h hi
    rw [escritoireref01_Same.l0]
    by_cases hlt : i < l.length
    · have e : wrap64 ((i : Int) + 1) = ((i + 1 : Nat) : Int) := by unfold wrap64; omega
      rw [if_pos (by omega), if_pos (by omega), if_pos (by omega), if_pos rfl, e]
      exact ih (i + 1) (by omega) (by omega)
    · rw [if_neg (by omega)]
theorem Same_calls {w : World} (l : List Int) (hl : l.length ≤ 9223372036854775806) (A0 : Option Addr) (n0 c0 : Nat) (A1 : Option Addr) (n1 c1 : Nat) (h0 : Kd.C (Kd.int .u64) w A0 n0 l) (hc0 : n0 ≤ c0) (h1 : Kd.C (Kd.int .u64) w A1 n1 l) (hc1 : n1 ≤ c1) :
    Calls Try.prog 13 #[.slice A0 n0 c0, .slice A1 n1 c1] w fun e w' => e = .returned (.bool true) ∧ Below w.heap.size w w' := by
  have e0 := h0.1
  have e1 := h1.1
  subst e0
  subst e1
  refine (escritoireref01_Same.calls (l.length + 1) A0 c0 l A1 c1 l true w h0 hc0 h1 hc1 ?_).mono fun e w' h => ⟨h.1, ?_⟩
  · unfold escritoireref01_Same.f
    rw [if_pos rfl]
    exact Same_loop l hl _ 0 (by omega) (by omega)
  · exact h.2.below
theorem C_take {α : Type} {d : Kd α} {w : World} {A : Option Addr} {l : List α} (h : Kd.C d w A l.length l) (m : Nat) : Kd.C d w A (l.take m).length (l.take m) := by
  obtain ⟨h1, h2, h3⟩ := h
  have hle : (l.take m).length ≤ l.length := by simp; omega
  refine ⟨rfl, by omega, fun h0 => ?_⟩
  obtain ⟨ad, hA, h4⟩ := h3 (by omega)
  refine ⟨ad, hA, fun j p hj => h4 j p ?_⟩
  rw [List.getElem?_take] at hj
  split at hj
  · exact hj
  · cases hj
theorem newS_len (n : Int) : ((newS n).ws.length : Int) = min (max n 0) 4096 := by
  unfold newS
  rw [loadS_len, List.length_replicate]
  omega
theorem newS_cell {n : Int} {c : Cell} (h : c ∈ (newS n).ws) : c = ⟨0, none, none⟩ := by
  simp only [newS, loadS, List.mem_map] at h
  obtain ⟨v, hv, rfl⟩ := h
  rw [List.eq_of_mem_replicate (List.mem_of_mem_take hv)]
theorem newS_at (n i : Int) : (newS n).at i = ⟨0, none, none⟩ := by
  unfold MS.at
  rw [List.getD_eq_getElem?_getD]
  rcases Nat.lt_or_ge i.toNat (newS n).ws.length with hl | hl
  · rw [List.getElem?_eq_getElem hl]; exact newS_cell (List.getElem_mem hl)
  · rw [List.getElem?_eq_none hl]; rfl
theorem newS_read (n i : Int) : (newS n).read i = 0 := by
  unfold MS.read
  rw [newS_at]
  split <;> rfl
theorem newS_keys (n : Int) : (newS n).keys = [] := by
  have : (newS n).looseM = [] := loadS_loose _
  unfold MS.keys
  rw [this]
  rfl
theorem crashed_loadS {l : List Int} {S' : MS} (h : Crashed (loadS l) [] S') : S'.image = l.take 4096 := by
  refine List.ext_getElem? fun j => ?_
  have hl := h.len
  rw [loadS_len] at hl
  unfold MS.image
  rw [List.getElem?_map]
  rcases Nat.lt_or_ge j S'.ws.length with hj | hj
  · obtain ⟨x, a, b, c, _⟩ := h.cell (j : Int) (by omega) (by rw [loadS_len]; omega)
    have e1 : S'.at (j : Int) = S'.ws[j] := by unfold MS.at; rw [List.getD_eq_getElem?_getD]; simp [hj]
    have hjl : j < (loadS l).ws.length := by rw [loadS_len]; omega
    have e2 : (loadS l).at (j : Int) = ⟨l[j]'(by omega), none, none⟩ := by
      unfold MS.at
      rw [List.getD_eq_getElem?_getD, Int.toNat_natCast, List.getElem?_eq_getElem hjl]
      simp [loadS]
    rw [List.getElem?_eq_getElem hj, List.getElem?_take, if_pos (by omega), List.getElem?_eq_getElem (by omega), Option.map_some, ← e1, a]
    have hx := c rfl
    rw [e2] at hx
    simp [Cell.now, hx]
  · rw [List.getElem?_eq_none hj, List.getElem?_eq_none (by simp; omega)]
    rfl
set_option maxHeartbeats 4000000 in
set_option maxRecDepth 100000 in
theorem MemoryLoads_calls (w : World) (A0 : Option Addr) (c0 : Nat) (l : List Int) (n : Int) (hr0 : Kd.C (Kd.int .u64) w A0 l.length l) (hc0 : l.length ≤ c0) (hl : ∀ v ∈ l, okw v) (hn : oki n) :
    Calls Try.prog 3 #[.slice A0 l.length c0, .int .i64 n] w fun e w' => e = .returned (.bool true) ∧ Below w.heap.size w w' := by
  have HC := Aside0.mk hr0
  have HL := Aside0.mk hl
  have HN := Aside0.mk hn
  have hnl := newS_len n
  have hn' := hn
  unfold oki at hn'
  have hlen : l.length ≤ 9223372036854775807 := hr0.2.1
  have hct : ∀ w', Below w.heap.size w w' → Kd.C (Kd.int .u64) w' A0 (min l.length 4096) (l.take 4096) := by
    intro w' hb
    have := C_take (Kd.C_below hr0 hb) 4096
    rw [List.length_take, Nat.min_comm] at this
    exact this
  clear hr0 hl hn
  by_cases hle : l.length ≤ 4096
  · have g0 : min (l.length : Int) 4096 = l.length := by omega
    rw [Nat.min_eq_left hle] at hct
    have CT := Aside0.mk hct
    clear hct
    by_cases k0 : n < 0
    · have x0 : min (max n 0) 4096 = 0 := by omega
      have x1 : max n 0 = 0 := by omega
      have x2 : min (0 : Int) 4096 = 0 := by omega
      have x3 : IntKind.i64.wrap (-1) = -1 := IntWalk.i64_in _ (by omega)
      rw [x0] at hnl
      have NL := Aside0.mk hnl
      clear hnl x0
      go_enter Try.func3, Try.ntmps3
      go_wp2_with fail
      refine (lives_calls _).mono ?_
      rintro e w1 ⟨rfl, hb⟩
      have B1 := Aside0.mk hb
      clear hb
      go_wp2_with fail
      refine (Load_calls A0 c0 l (Kd.C_below HC.out B1.out) hc0 HL.out).mono ?_
      rintro e w2 ⟨f, rfl, h2, hf, hb⟩
      have HF := Aside0.mk hf
      have B2 := Aside0.mk hb
      clear hf hb
      go_wp2_with fail
      refine (New_calls _ n HN.out).mono ?_
      rintro e w3 ⟨g, rfl, h3, hg, hb⟩
      have G := Aside0.mk hg
      have F3 := Aside0.mk (h2.below hb)
      have hlt := h2.lts
      have G3 := Aside0.mk (show ∀ w', Turn f.list w3 w' → (∀ b ∈ g.list, b ∉ f.list) → IsMem w' g (newS n) from fun w' h1 h2 => h3.kept h1 h2)
      have T3 := Aside0.mk (show ∀ b ∈ g.list, b ∉ f.list from fun b hb hm => by have := hlt b hm; have := G.out b hb; omega)
      have BB3 := Aside0.mk ((B1.out.trans (B2.out.mono B1.out.size)).trans (hb.mono (Nat.le_trans B1.out.size B2.out.size)))
      clear hg hb h2 h3 hlt
      go_wp2_with fail
      refine (Crash_calls F3.out none 0 [] (bools_nil _ _) (by simp)).mono ?_
      rintro e w4 ⟨rfl, ⟨S4, h4, hc4⟩, t4⟩
      have IM := Aside0.mk (crashed_loadS hc4)
      have R4 := Aside0.mk h4
      have GG := Aside0.mk (G3.out _ t4 T3.out)
      have BB := Aside0.mk (BB3.out.trans (t4.below BB3.out.size (fun b hb => Nat.le_trans B1.out.size (HF.out b hb))))
      clear h4 hc4 t4
      go_wp2
      refine wp_region_text (fun _ => True) (fun i => [1, 7, 10, 18, 24, 29].contains i) (by kernel_rfl) (by kernel_rfl) trivial ?_
      have R4' := R4
      clear R4
      have R4 := Aside0.mk (R4'.out.kept (Turn.drew _ []) (by simp))
      have GG' := GG
      clear GG
      have GG := Aside0.mk (GG'.out.kept (Turn.drew _ []) (by simp))
      have BB' := BB
      clear BB
      have BB := Aside0.mk (BB'.out.drew)
      clear R4' GG' BB'
      generalize w4.drew = w4d at R4 GG BB ⊢
      (apply S_val rfl; (first | exact wanted_none rfl | exact wanted_yes rfl rfl (by kernel_rfl)); (intro W hW R hR; go_simp; exact hR)); go_frame
      (refine S_call rfl ?_ ?_ (Image_as R4.out _ IM.out) ?_; (first | exact wanted_none rfl | exact wanted_yes rfl rfl (by kernel_rfl)); (focus (go_simp; done))); rintro e w5 ⟨A5, c5, rfl, hR, hb⟩; refine ⟨_, rfl, trivial, ?_⟩; have I5 := Aside0.mk hR; have R5 := Aside0.mk (R4.out.below hb); have H5 := Aside0.mk (GG.out.below hb); have B5 := Aside0.mk (BB.out.trans (hb.mono BB.out.size)); clear hR hb; go_frame
      (apply S_val rfl; (first | exact wanted_none rfl | exact wanted_yes rfl rfl (by kernel_rfl)); (intro W hW R hR; go_simp; exact hR)); go_frame
      (apply S_val rfl; (first | exact wanted_none rfl | exact wanted_yes rfl rfl (by kernel_rfl)); (intro W hW R hR; go_simp; exact hR)); go_frame
      (apply S_val rfl; (first | exact wanted_none rfl | exact wanted_yes rfl rfl (by kernel_rfl)); (intro W hW R hR; go_simp; exact hR)); go_frame
      (apply S_val rfl; (first | exact wanted_none rfl | exact wanted_yes rfl rfl (by kernel_rfl)); (intro W hW R hR; go_simp; exact hR)); go_frame
      (apply S_val rfl; (first | exact wanted_none rfl | exact wanted_yes rfl rfl (by kernel_rfl)); (intro W hW R hR; go_simp; exact hR)); go_frame
      (refine S_call rfl ?_ ?_ (Same_calls (l.take 4096) (by simp; omega) _ _ c5 _ _ c0 (by have h := (Kd.R_reads' I5.out).2.2; exact h) (by have h := (Kd.R_reads' I5.out).2.1; exact h) (CT.out w5 B5.out) (by omega)) ?_; (first | exact wanted_none rfl | exact wanted_yes rfl rfl (by kernel_rfl)); (focus (go_simp; done))); rintro e w6 ⟨rfl, hb⟩; refine ⟨_, rfl, trivial, ?_⟩; have H6 := Aside0.mk (H5.out.below hb); have B6 := Aside0.mk (B5.out.trans (hb.mono B5.out.size)); clear hb; go_frame
      (apply S_val rfl; (first | exact wanted_none rfl | exact wanted_yes rfl rfl (by kernel_rfl)); (intro W hW R hR; go_simp; exact hR)); go_frame
      (apply S_val rfl; (first | exact wanted_none rfl | exact wanted_yes rfl rfl (by kernel_rfl)); (intro W hW R hR; go_simp; exact hR)); go_frame
      (refine S_call rfl ?_ ?_ (Size_as H6.out 0 NL.out) ?_; (first | exact wanted_none rfl | exact wanted_yes rfl rfl (by kernel_rfl)); (focus (go_simp; done))); rintro e w7 ⟨rfl, rfl⟩; refine ⟨_, rfl, trivial, ?_⟩; go_frame
      (apply S_val rfl; (first | exact wanted_none rfl | exact wanted_yes rfl rfl (by kernel_rfl)); (intro W hW R hR; go_simp; exact hR)); go_frame
      (apply S_val rfl; (first | exact wanted_none rfl | exact wanted_yes rfl rfl (by kernel_rfl)); (intro W hW R hR; go_simp; exact hR)); go_frame
      (apply S_val rfl; (first | exact wanted_none rfl | exact wanted_yes rfl rfl (by kernel_rfl)); (intro W hW R hR; go_simp; exact hR)); go_frame
      (apply S_val rfl; (first | exact wanted_none rfl | exact wanted_yes rfl rfl (by kernel_rfl)); (intro W hW R hR; go_simp; exact hR)); go_frame
      (apply S_val rfl; (first | exact wanted_none rfl | exact wanted_yes rfl rfl (by kernel_rfl)); (intro W hW R hR; go_simp; exact hR)); go_frame
      (apply S_val rfl; (first | exact wanted_none rfl | exact wanted_yes rfl rfl (by kernel_rfl)); (intro W hW R hR; go_simp; exact hR)); go_frame
      (apply S_val rfl; (first | exact wanted_none rfl | exact wanted_yes rfl rfl (by kernel_rfl)); (intro W hW R hR; go_simp; exact hR)); go_frame
      (refine S_call rfl ?_ ?_ (Read_as H6.out (-1) (by unfold oki; omega) 0 (newS_read _ _)) ?_; (first | exact wanted_none rfl | exact wanted_yes rfl rfl (by kernel_rfl)); (focus (go_simp; done))); rintro e w7 ⟨rfl, rfl⟩; refine ⟨_, rfl, trivial, ?_⟩; go_frame
      (apply S_val rfl; (first | exact wanted_none rfl | exact wanted_yes rfl rfl (by kernel_rfl)); (intro W hW R hR; go_simp; exact hR)); go_frame
      (apply S_val rfl; (first | exact wanted_none rfl | exact wanted_yes rfl rfl (by kernel_rfl)); (intro W hW R hR; go_simp; exact hR)); go_frame
      (apply S_val rfl; (first | exact wanted_none rfl | exact wanted_yes rfl rfl (by kernel_rfl)); (intro W hW R hR; go_simp; exact hR)); go_frame
      (apply S_val rfl; (first | exact wanted_none rfl | exact wanted_yes rfl rfl (by kernel_rfl)); (intro W hW R hR; go_simp; exact hR)); go_frame
      (apply S_val rfl; (first | exact wanted_none rfl | exact wanted_yes rfl rfl (by kernel_rfl)); (intro W hW R hR; go_simp; exact hR)); go_frame
      (refine S_call rfl ?_ ?_ (Read_as H6.out 0 (by unfold oki; omega) 0 (newS_read _ _)) ?_; (first | exact wanted_none rfl | exact wanted_yes rfl rfl (by kernel_rfl)); (focus (go_simp; done))); rintro e w7 ⟨rfl, rfl⟩; refine ⟨_, rfl, trivial, ?_⟩; go_frame
      (apply S_val rfl; (first | exact wanted_none rfl | exact wanted_yes rfl rfl (by kernel_rfl)); (intro W hW R hR; go_simp; exact hR)); go_frame
      (apply S_val rfl; (first | exact wanted_none rfl | exact wanted_yes rfl rfl (by kernel_rfl)); (intro W hW R hR; go_simp; exact hR)); go_frame
      (apply S_val rfl; (first | exact wanted_none rfl | exact wanted_yes rfl rfl (by kernel_rfl)); (intro W hW R hR; go_simp; exact hR)); go_frame
      (apply S_val rfl; (first | exact wanted_none rfl | exact wanted_yes rfl rfl (by kernel_rfl)); (intro W hW R hR; go_simp; exact hR)); go_frame
      (refine S_call rfl ?_ ?_ (Loose_as H6.out 0 (by rw [newS_keys]; rfl)) ?_; (first | exact wanted_none rfl | exact wanted_yes rfl rfl (by kernel_rfl)); (focus (go_simp; done))); rintro e w8 ⟨A8, c8, rfl, hR, hb⟩; refine ⟨_, rfl, trivial, ?_⟩; have B8 := Aside0.mk (B6.out.trans (hb.mono B6.out.size)); clear hR hb; go_frame
      (apply S_val rfl; (first | exact wanted_none rfl | exact wanted_yes rfl rfl (by kernel_rfl)); (intro W hW R hR; go_simp; exact hR)); go_frame
      (apply S_val rfl; (first | exact wanted_none rfl | exact wanted_yes rfl rfl (by kernel_rfl)); (intro W hW R hR; go_simp; exact hR)); go_frame
      (apply S_val rfl; (first | exact wanted_none rfl | exact wanted_yes rfl rfl (by kernel_rfl)); (intro W hW R hR; go_simp; exact hR)); go_frame
      (apply S_val rfl; (first | exact wanted_none rfl | exact wanted_yes rfl rfl (by kernel_rfl)); (intro W hW R hR; go_simp; exact hR)); go_frame
      refine S_nil ?_
      go_wp2
      go_ret
      exact ⟨rfl, B8.out⟩
    · by_cases k1 : n ≤ 4096
      · have x0 : min (max n 0) 4096 = n := by omega
        have x1 : max n 0 = n := by omega
        have x2 : min n 4096 = n := by omega
        rw [x0] at hnl
        have NL := Aside0.mk hnl
        have x3 : IntKind.i64.wrap (n - 1) = n - 1 := IntWalk.i64_in _ (by omega)
        clear hnl x0 k0 k1
        go_enter Try.func3, Try.ntmps3
        go_wp2_with fail
        refine (lives_calls _).mono ?_
        rintro e w1 ⟨rfl, hb⟩
        have B1 := Aside0.mk hb
        clear hb
        go_wp2_with fail
        refine (Load_calls A0 c0 l (Kd.C_below HC.out B1.out) hc0 HL.out).mono ?_
        rintro e w2 ⟨f, rfl, h2, hf, hb⟩
        have HF := Aside0.mk hf
        have B2 := Aside0.mk hb
        clear hf hb
        go_wp2_with fail
        refine (New_calls _ n HN.out).mono ?_
        rintro e w3 ⟨g, rfl, h3, hg, hb⟩
        have G := Aside0.mk hg
        have F3 := Aside0.mk (h2.below hb)
        have hlt := h2.lts
        have G3 := Aside0.mk (show ∀ w', Turn f.list w3 w' → (∀ b ∈ g.list, b ∉ f.list) → IsMem w' g (newS n) from fun w' h1 h2 => h3.kept h1 h2)
        have T3 := Aside0.mk (show ∀ b ∈ g.list, b ∉ f.list from fun b hb hm => by have := hlt b hm; have := G.out b hb; omega)
        have BB3 := Aside0.mk ((B1.out.trans (B2.out.mono B1.out.size)).trans (hb.mono (Nat.le_trans B1.out.size B2.out.size)))
        clear hg hb h2 h3 hlt
        go_wp2_with fail
        refine (Crash_calls F3.out none 0 [] (bools_nil _ _) (by simp)).mono ?_
        rintro e w4 ⟨rfl, ⟨S4, h4, hc4⟩, t4⟩
        have IM := Aside0.mk (crashed_loadS hc4)
        have R4 := Aside0.mk h4
        have GG := Aside0.mk (G3.out _ t4 T3.out)
        have BB := Aside0.mk (BB3.out.trans (t4.below BB3.out.size (fun b hb => Nat.le_trans B1.out.size (HF.out b hb))))
        clear h4 hc4 t4
        go_wp2
        refine wp_region_text (fun _ => True) (fun i => [1, 7, 10, 18, 24, 29].contains i) (by kernel_rfl) (by kernel_rfl) trivial ?_
        have R4' := R4
        clear R4
        have R4 := Aside0.mk (R4'.out.kept (Turn.drew _ []) (by simp))
        have GG' := GG
        clear GG
        have GG := Aside0.mk (GG'.out.kept (Turn.drew _ []) (by simp))
        have BB' := BB
        clear BB
        have BB := Aside0.mk (BB'.out.drew)
        clear R4' GG' BB'
        generalize w4.drew = w4d at R4 GG BB ⊢
        (apply S_val rfl; (first | exact wanted_none rfl | exact wanted_yes rfl rfl (by kernel_rfl)); (intro W hW R hR; go_simp; exact hR)); go_frame
        (refine S_call rfl ?_ ?_ (Image_as R4.out _ IM.out) ?_; (first | exact wanted_none rfl | exact wanted_yes rfl rfl (by kernel_rfl)); (focus (go_simp; done))); rintro e w5 ⟨A5, c5, rfl, hR, hb⟩; refine ⟨_, rfl, trivial, ?_⟩; have I5 := Aside0.mk hR; have R5 := Aside0.mk (R4.out.below hb); have H5 := Aside0.mk (GG.out.below hb); have B5 := Aside0.mk (BB.out.trans (hb.mono BB.out.size)); clear hR hb; go_frame
        (apply S_val rfl; (first | exact wanted_none rfl | exact wanted_yes rfl rfl (by kernel_rfl)); (intro W hW R hR; go_simp; exact hR)); go_frame
        (apply S_val rfl; (first | exact wanted_none rfl | exact wanted_yes rfl rfl (by kernel_rfl)); (intro W hW R hR; go_simp; exact hR)); go_frame
        (apply S_val rfl; (first | exact wanted_none rfl | exact wanted_yes rfl rfl (by kernel_rfl)); (intro W hW R hR; go_simp; exact hR)); go_frame
        (apply S_val rfl; (first | exact wanted_none rfl | exact wanted_yes rfl rfl (by kernel_rfl)); (intro W hW R hR; go_simp; exact hR)); go_frame
        (apply S_val rfl; (first | exact wanted_none rfl | exact wanted_yes rfl rfl (by kernel_rfl)); (intro W hW R hR; go_simp; exact hR)); go_frame
        (refine S_call rfl ?_ ?_ (Same_calls (l.take 4096) (by simp; omega) _ _ c5 _ _ c0 (by have h := (Kd.R_reads' I5.out).2.2; exact h) (by have h := (Kd.R_reads' I5.out).2.1; exact h) (CT.out w5 B5.out) (by omega)) ?_; (first | exact wanted_none rfl | exact wanted_yes rfl rfl (by kernel_rfl)); (focus (go_simp; done))); rintro e w6 ⟨rfl, hb⟩; refine ⟨_, rfl, trivial, ?_⟩; have H6 := Aside0.mk (H5.out.below hb); have B6 := Aside0.mk (B5.out.trans (hb.mono B5.out.size)); clear hb; go_frame
        (apply S_val rfl; (first | exact wanted_none rfl | exact wanted_yes rfl rfl (by kernel_rfl)); (intro W hW R hR; go_simp; exact hR)); go_frame
        (apply S_val rfl; (first | exact wanted_none rfl | exact wanted_yes rfl rfl (by kernel_rfl)); (intro W hW R hR; go_simp; exact hR)); go_frame
        (refine S_call rfl ?_ ?_ (Size_as H6.out n NL.out) ?_; (first | exact wanted_none rfl | exact wanted_yes rfl rfl (by kernel_rfl)); (focus (go_simp; done))); rintro e w7 ⟨rfl, rfl⟩; refine ⟨_, rfl, trivial, ?_⟩; go_frame
        (apply S_val rfl; (first | exact wanted_none rfl | exact wanted_yes rfl rfl (by kernel_rfl)); (intro W hW R hR; go_simp; exact hR)); go_frame
        (apply S_val rfl; (first | exact wanted_none rfl | exact wanted_yes rfl rfl (by kernel_rfl)); (intro W hW R hR; go_simp; exact hR)); go_frame
        (apply S_val rfl; (first | exact wanted_none rfl | exact wanted_yes rfl rfl (by kernel_rfl)); (intro W hW R hR; go_simp; exact hR)); go_frame
        (apply S_val rfl; (first | exact wanted_none rfl | exact wanted_yes rfl rfl (by kernel_rfl)); (intro W hW R hR; go_simp; exact hR)); go_frame
        (apply S_val rfl; (first | exact wanted_none rfl | exact wanted_yes rfl rfl (by kernel_rfl)); (intro W hW R hR; go_simp; exact hR)); go_frame
        (apply S_val rfl; (first | exact wanted_none rfl | exact wanted_yes rfl rfl (by kernel_rfl)); (intro W hW R hR; go_simp; exact hR)); go_frame
        (apply S_val rfl; (first | exact wanted_none rfl | exact wanted_yes rfl rfl (by kernel_rfl)); (intro W hW R hR; go_simp; exact hR)); go_frame
        (refine S_call rfl ?_ ?_ (Read_as H6.out (n - 1) (by unfold oki; omega) 0 (newS_read _ _)) ?_; (first | exact wanted_none rfl | exact wanted_yes rfl rfl (by kernel_rfl)); (focus (go_simp; done))); rintro e w7 ⟨rfl, rfl⟩; refine ⟨_, rfl, trivial, ?_⟩; go_frame
        (apply S_val rfl; (first | exact wanted_none rfl | exact wanted_yes rfl rfl (by kernel_rfl)); (intro W hW R hR; go_simp; exact hR)); go_frame
        (apply S_val rfl; (first | exact wanted_none rfl | exact wanted_yes rfl rfl (by kernel_rfl)); (intro W hW R hR; go_simp; exact hR)); go_frame
        (apply S_val rfl; (first | exact wanted_none rfl | exact wanted_yes rfl rfl (by kernel_rfl)); (intro W hW R hR; go_simp; exact hR)); go_frame
        (apply S_val rfl; (first | exact wanted_none rfl | exact wanted_yes rfl rfl (by kernel_rfl)); (intro W hW R hR; go_simp; exact hR)); go_frame
        (apply S_val rfl; (first | exact wanted_none rfl | exact wanted_yes rfl rfl (by kernel_rfl)); (intro W hW R hR; go_simp; exact hR)); go_frame
        (refine S_call rfl ?_ ?_ (Read_as H6.out n (by unfold oki; omega) 0 (newS_read _ _)) ?_; (first | exact wanted_none rfl | exact wanted_yes rfl rfl (by kernel_rfl)); (focus (go_simp; done))); rintro e w7 ⟨rfl, rfl⟩; refine ⟨_, rfl, trivial, ?_⟩; go_frame
        (apply S_val rfl; (first | exact wanted_none rfl | exact wanted_yes rfl rfl (by kernel_rfl)); (intro W hW R hR; go_simp; exact hR)); go_frame
        (apply S_val rfl; (first | exact wanted_none rfl | exact wanted_yes rfl rfl (by kernel_rfl)); (intro W hW R hR; go_simp; exact hR)); go_frame
        (apply S_val rfl; (first | exact wanted_none rfl | exact wanted_yes rfl rfl (by kernel_rfl)); (intro W hW R hR; go_simp; exact hR)); go_frame
        (apply S_val rfl; (first | exact wanted_none rfl | exact wanted_yes rfl rfl (by kernel_rfl)); (intro W hW R hR; go_simp; exact hR)); go_frame
        (refine S_call rfl ?_ ?_ (Loose_as H6.out 0 (by rw [newS_keys]; rfl)) ?_; (first | exact wanted_none rfl | exact wanted_yes rfl rfl (by kernel_rfl)); (focus (go_simp; done))); rintro e w8 ⟨A8, c8, rfl, hR, hb⟩; refine ⟨_, rfl, trivial, ?_⟩; have B8 := Aside0.mk (B6.out.trans (hb.mono B6.out.size)); clear hR hb; go_frame
        (apply S_val rfl; (first | exact wanted_none rfl | exact wanted_yes rfl rfl (by kernel_rfl)); (intro W hW R hR; go_simp; exact hR)); go_frame
        (apply S_val rfl; (first | exact wanted_none rfl | exact wanted_yes rfl rfl (by kernel_rfl)); (intro W hW R hR; go_simp; exact hR)); go_frame
        (apply S_val rfl; (first | exact wanted_none rfl | exact wanted_yes rfl rfl (by kernel_rfl)); (intro W hW R hR; go_simp; exact hR)); go_frame
        (apply S_val rfl; (first | exact wanted_none rfl | exact wanted_yes rfl rfl (by kernel_rfl)); (intro W hW R hR; go_simp; exact hR)); go_frame
        refine S_nil ?_
        go_wp2
        go_ret
        exact ⟨rfl, B8.out⟩
      · have x0 : min (max n 0) 4096 = 4096 := by omega
        have x1 : max n 0 = n := by omega
        have x2 : min n 4096 = 4096 := by omega
        have x3 : IntKind.i64.wrap 4095 = 4095 := IntWalk.i64_in _ (by omega)
        rw [x0] at hnl
        have NL := Aside0.mk hnl
        clear hnl x0 k0 k1
        go_enter Try.func3, Try.ntmps3
        go_wp2_with fail
        refine (lives_calls _).mono ?_
        rintro e w1 ⟨rfl, hb⟩
        have B1 := Aside0.mk hb
        clear hb
        go_wp2_with fail
        refine (Load_calls A0 c0 l (Kd.C_below HC.out B1.out) hc0 HL.out).mono ?_
        rintro e w2 ⟨f, rfl, h2, hf, hb⟩
        have HF := Aside0.mk hf
        have B2 := Aside0.mk hb
        clear hf hb
        go_wp2_with fail
        refine (New_calls _ n HN.out).mono ?_
        rintro e w3 ⟨g, rfl, h3, hg, hb⟩
        have G := Aside0.mk hg
        have F3 := Aside0.mk (h2.below hb)
        have hlt := h2.lts
        have G3 := Aside0.mk (show ∀ w', Turn f.list w3 w' → (∀ b ∈ g.list, b ∉ f.list) → IsMem w' g (newS n) from fun w' h1 h2 => h3.kept h1 h2)
        have T3 := Aside0.mk (show ∀ b ∈ g.list, b ∉ f.list from fun b hb hm => by have := hlt b hm; have := G.out b hb; omega)
        have BB3 := Aside0.mk ((B1.out.trans (B2.out.mono B1.out.size)).trans (hb.mono (Nat.le_trans B1.out.size B2.out.size)))
        clear hg hb h2 h3 hlt
        go_wp2_with fail
        refine (Crash_calls F3.out none 0 [] (bools_nil _ _) (by simp)).mono ?_
        rintro e w4 ⟨rfl, ⟨S4, h4, hc4⟩, t4⟩
        have IM := Aside0.mk (crashed_loadS hc4)
        have R4 := Aside0.mk h4
        have GG := Aside0.mk (G3.out _ t4 T3.out)
        have BB := Aside0.mk (BB3.out.trans (t4.below BB3.out.size (fun b hb => Nat.le_trans B1.out.size (HF.out b hb))))
        clear h4 hc4 t4
        go_wp2
        refine wp_region_text (fun _ => True) (fun i => [1, 7, 10, 18, 24, 29].contains i) (by kernel_rfl) (by kernel_rfl) trivial ?_
        have R4' := R4
        clear R4
        have R4 := Aside0.mk (R4'.out.kept (Turn.drew _ []) (by simp))
        have GG' := GG
        clear GG
        have GG := Aside0.mk (GG'.out.kept (Turn.drew _ []) (by simp))
        have BB' := BB
        clear BB
        have BB := Aside0.mk (BB'.out.drew)
        clear R4' GG' BB'
        generalize w4.drew = w4d at R4 GG BB ⊢
        (apply S_val rfl; (first | exact wanted_none rfl | exact wanted_yes rfl rfl (by kernel_rfl)); (intro W hW R hR; go_simp; exact hR)); go_frame
        (refine S_call rfl ?_ ?_ (Image_as R4.out _ IM.out) ?_; (first | exact wanted_none rfl | exact wanted_yes rfl rfl (by kernel_rfl)); (focus (go_simp; done))); rintro e w5 ⟨A5, c5, rfl, hR, hb⟩; refine ⟨_, rfl, trivial, ?_⟩; have I5 := Aside0.mk hR; have R5 := Aside0.mk (R4.out.below hb); have H5 := Aside0.mk (GG.out.below hb); have B5 := Aside0.mk (BB.out.trans (hb.mono BB.out.size)); clear hR hb; go_frame
        (apply S_val rfl; (first | exact wanted_none rfl | exact wanted_yes rfl rfl (by kernel_rfl)); (intro W hW R hR; go_simp; exact hR)); go_frame
        (apply S_val rfl; (first | exact wanted_none rfl | exact wanted_yes rfl rfl (by kernel_rfl)); (intro W hW R hR; go_simp; exact hR)); go_frame
        (apply S_val rfl; (first | exact wanted_none rfl | exact wanted_yes rfl rfl (by kernel_rfl)); (intro W hW R hR; go_simp; exact hR)); go_frame
        (apply S_val rfl; (first | exact wanted_none rfl | exact wanted_yes rfl rfl (by kernel_rfl)); (intro W hW R hR; go_simp; exact hR)); go_frame
        (apply S_val rfl; (first | exact wanted_none rfl | exact wanted_yes rfl rfl (by kernel_rfl)); (intro W hW R hR; go_simp; exact hR)); go_frame
        (refine S_call rfl ?_ ?_ (Same_calls (l.take 4096) (by simp; omega) _ _ c5 _ _ c0 (by have h := (Kd.R_reads' I5.out).2.2; exact h) (by have h := (Kd.R_reads' I5.out).2.1; exact h) (CT.out w5 B5.out) (by omega)) ?_; (first | exact wanted_none rfl | exact wanted_yes rfl rfl (by kernel_rfl)); (focus (go_simp; done))); rintro e w6 ⟨rfl, hb⟩; refine ⟨_, rfl, trivial, ?_⟩; have H6 := Aside0.mk (H5.out.below hb); have B6 := Aside0.mk (B5.out.trans (hb.mono B5.out.size)); clear hb; go_frame
        (apply S_val rfl; (first | exact wanted_none rfl | exact wanted_yes rfl rfl (by kernel_rfl)); (intro W hW R hR; go_simp; exact hR)); go_frame
        (apply S_val rfl; (first | exact wanted_none rfl | exact wanted_yes rfl rfl (by kernel_rfl)); (intro W hW R hR; go_simp; exact hR)); go_frame
        (refine S_call rfl ?_ ?_ (Size_as H6.out 4096 NL.out) ?_; (first | exact wanted_none rfl | exact wanted_yes rfl rfl (by kernel_rfl)); (focus (go_simp; done))); rintro e w7 ⟨rfl, rfl⟩; refine ⟨_, rfl, trivial, ?_⟩; go_frame
        (apply S_val rfl; (first | exact wanted_none rfl | exact wanted_yes rfl rfl (by kernel_rfl)); (intro W hW R hR; go_simp; exact hR)); go_frame
        (apply S_val rfl; (first | exact wanted_none rfl | exact wanted_yes rfl rfl (by kernel_rfl)); (intro W hW R hR; go_simp; exact hR)); go_frame
        (apply S_val rfl; (first | exact wanted_none rfl | exact wanted_yes rfl rfl (by kernel_rfl)); (intro W hW R hR; go_simp; exact hR)); go_frame
        (apply S_val rfl; (first | exact wanted_none rfl | exact wanted_yes rfl rfl (by kernel_rfl)); (intro W hW R hR; go_simp; exact hR)); go_frame
        (apply S_val rfl; (first | exact wanted_none rfl | exact wanted_yes rfl rfl (by kernel_rfl)); (intro W hW R hR; go_simp; exact hR)); go_frame
        (apply S_val rfl; (first | exact wanted_none rfl | exact wanted_yes rfl rfl (by kernel_rfl)); (intro W hW R hR; go_simp; exact hR)); go_frame
        (apply S_val rfl; (first | exact wanted_none rfl | exact wanted_yes rfl rfl (by kernel_rfl)); (intro W hW R hR; go_simp; exact hR)); go_frame
        (refine S_call rfl ?_ ?_ (Read_as H6.out 4095 (by unfold oki; omega) 0 (newS_read _ _)) ?_; (first | exact wanted_none rfl | exact wanted_yes rfl rfl (by kernel_rfl)); (focus (go_simp; done))); rintro e w7 ⟨rfl, rfl⟩; refine ⟨_, rfl, trivial, ?_⟩; go_frame
        (apply S_val rfl; (first | exact wanted_none rfl | exact wanted_yes rfl rfl (by kernel_rfl)); (intro W hW R hR; go_simp; exact hR)); go_frame
        (apply S_val rfl; (first | exact wanted_none rfl | exact wanted_yes rfl rfl (by kernel_rfl)); (intro W hW R hR; go_simp; exact hR)); go_frame
        (apply S_val rfl; (first | exact wanted_none rfl | exact wanted_yes rfl rfl (by kernel_rfl)); (intro W hW R hR; go_simp; exact hR)); go_frame
        (apply S_val rfl; (first | exact wanted_none rfl | exact wanted_yes rfl rfl (by kernel_rfl)); (intro W hW R hR; go_simp; exact hR)); go_frame
        (apply S_val rfl; (first | exact wanted_none rfl | exact wanted_yes rfl rfl (by kernel_rfl)); (intro W hW R hR; go_simp; exact hR)); go_frame
        (refine S_call rfl ?_ ?_ (Read_as H6.out 4096 (by unfold oki; omega) 0 (newS_read _ _)) ?_; (first | exact wanted_none rfl | exact wanted_yes rfl rfl (by kernel_rfl)); (focus (go_simp; done))); rintro e w7 ⟨rfl, rfl⟩; refine ⟨_, rfl, trivial, ?_⟩; go_frame
        (apply S_val rfl; (first | exact wanted_none rfl | exact wanted_yes rfl rfl (by kernel_rfl)); (intro W hW R hR; go_simp; exact hR)); go_frame
        (apply S_val rfl; (first | exact wanted_none rfl | exact wanted_yes rfl rfl (by kernel_rfl)); (intro W hW R hR; go_simp; exact hR)); go_frame
        (apply S_val rfl; (first | exact wanted_none rfl | exact wanted_yes rfl rfl (by kernel_rfl)); (intro W hW R hR; go_simp; exact hR)); go_frame
        (apply S_val rfl; (first | exact wanted_none rfl | exact wanted_yes rfl rfl (by kernel_rfl)); (intro W hW R hR; go_simp; exact hR)); go_frame
        (refine S_call rfl ?_ ?_ (Loose_as H6.out 0 (by rw [newS_keys]; rfl)) ?_; (first | exact wanted_none rfl | exact wanted_yes rfl rfl (by kernel_rfl)); (focus (go_simp; done))); rintro e w8 ⟨A8, c8, rfl, hR, hb⟩; refine ⟨_, rfl, trivial, ?_⟩; have B8 := Aside0.mk (B6.out.trans (hb.mono B6.out.size)); clear hR hb; go_frame
        (apply S_val rfl; (first | exact wanted_none rfl | exact wanted_yes rfl rfl (by kernel_rfl)); (intro W hW R hR; go_simp; exact hR)); go_frame
        (apply S_val rfl; (first | exact wanted_none rfl | exact wanted_yes rfl rfl (by kernel_rfl)); (intro W hW R hR; go_simp; exact hR)); go_frame
        (apply S_val rfl; (first | exact wanted_none rfl | exact wanted_yes rfl rfl (by kernel_rfl)); (intro W hW R hR; go_simp; exact hR)); go_frame
        (apply S_val rfl; (first | exact wanted_none rfl | exact wanted_yes rfl rfl (by kernel_rfl)); (intro W hW R hR; go_simp; exact hR)); go_frame
        refine S_nil ?_
        go_wp2
        go_ret
        exact ⟨rfl, B8.out⟩
  · have g0 : min (l.length : Int) 4096 = 4096 := by omega
    rw [Nat.min_eq_right (by omega)] at hct
    have CT := Aside0.mk hct
    have hc4 : (4096 : Int) ≤ c0 := by omega
    clear hct
    by_cases k0 : n < 0
    · have x0 : min (max n 0) 4096 = 0 := by omega
      have x1 : max n 0 = 0 := by omega
      have x2 : min (0 : Int) 4096 = 0 := by omega
      have x3 : IntKind.i64.wrap (-1) = -1 := IntWalk.i64_in _ (by omega)
      rw [x0] at hnl
      have NL := Aside0.mk hnl
      clear hnl x0
      go_enter Try.func3, Try.ntmps3
      go_wp2_with fail
      refine (lives_calls _).mono ?_
      rintro e w1 ⟨rfl, hb⟩
      have B1 := Aside0.mk hb
      clear hb
      go_wp2_with fail
      refine (Load_calls A0 c0 l (Kd.C_below HC.out B1.out) hc0 HL.out).mono ?_
      rintro e w2 ⟨f, rfl, h2, hf, hb⟩
      have HF := Aside0.mk hf
      have B2 := Aside0.mk hb
      clear hf hb
      go_wp2_with fail
      refine (New_calls _ n HN.out).mono ?_
      rintro e w3 ⟨g, rfl, h3, hg, hb⟩
      have G := Aside0.mk hg
      have F3 := Aside0.mk (h2.below hb)
      have hlt := h2.lts
      have G3 := Aside0.mk (show ∀ w', Turn f.list w3 w' → (∀ b ∈ g.list, b ∉ f.list) → IsMem w' g (newS n) from fun w' h1 h2 => h3.kept h1 h2)
      have T3 := Aside0.mk (show ∀ b ∈ g.list, b ∉ f.list from fun b hb hm => by have := hlt b hm; have := G.out b hb; omega)
      have BB3 := Aside0.mk ((B1.out.trans (B2.out.mono B1.out.size)).trans (hb.mono (Nat.le_trans B1.out.size B2.out.size)))
      clear hg hb h2 h3 hlt
      go_wp2_with fail
      refine (Crash_calls F3.out none 0 [] (bools_nil _ _) (by simp)).mono ?_
      rintro e w4 ⟨rfl, ⟨S4, h4, hc4⟩, t4⟩
      have IM := Aside0.mk (crashed_loadS hc4)
      have R4 := Aside0.mk h4
      have GG := Aside0.mk (G3.out _ t4 T3.out)
      have BB := Aside0.mk (BB3.out.trans (t4.below BB3.out.size (fun b hb => Nat.le_trans B1.out.size (HF.out b hb))))
      clear h4 hc4 t4
      go_wp2
      refine wp_region_text (fun _ => True) (fun i => [1, 7, 10, 18, 24, 29].contains i) (by kernel_rfl) (by kernel_rfl) trivial ?_
      have R4' := R4
      clear R4
      have R4 := Aside0.mk (R4'.out.kept (Turn.drew _ []) (by simp))
      have GG' := GG
      clear GG
      have GG := Aside0.mk (GG'.out.kept (Turn.drew _ []) (by simp))
      have BB' := BB
      clear BB
      have BB := Aside0.mk (BB'.out.drew)
      clear R4' GG' BB'
      generalize w4.drew = w4d at R4 GG BB ⊢
      (apply S_val rfl; (first | exact wanted_none rfl | exact wanted_yes rfl rfl (by kernel_rfl)); (intro W hW R hR; go_simp; exact hR)); go_frame
      (refine S_call rfl ?_ ?_ (Image_as R4.out _ IM.out) ?_; (first | exact wanted_none rfl | exact wanted_yes rfl rfl (by kernel_rfl)); (focus (go_simp; done))); rintro e w5 ⟨A5, c5, rfl, hR, hb⟩; refine ⟨_, rfl, trivial, ?_⟩; have I5 := Aside0.mk hR; have R5 := Aside0.mk (R4.out.below hb); have H5 := Aside0.mk (GG.out.below hb); have B5 := Aside0.mk (BB.out.trans (hb.mono BB.out.size)); clear hR hb; go_frame
      (apply S_val rfl; (first | exact wanted_none rfl | exact wanted_yes rfl rfl (by kernel_rfl)); (intro W hW R hR; go_simp; exact hR)); go_frame
      (apply S_val rfl; (first | exact wanted_none rfl | exact wanted_yes rfl rfl (by kernel_rfl)); (intro W hW R hR; go_simp; exact hR)); go_frame
      (apply S_val rfl; (first | exact wanted_none rfl | exact wanted_yes rfl rfl (by kernel_rfl)); (intro W hW R hR; go_simp; exact hR)); go_frame
      (apply S_val rfl; (first | exact wanted_none rfl | exact wanted_yes rfl rfl (by kernel_rfl)); (intro W hW R hR; go_simp; exact hR)); go_frame
      (apply S_val rfl; (first | exact wanted_none rfl | exact wanted_yes rfl rfl (by kernel_rfl)); (intro W hW R hR; go_simp; exact hR)); go_frame
      (refine S_call rfl ?_ ?_ (Same_calls (l.take 4096) (by simp; omega) _ _ c5 _ _ c0 (by have h := (Kd.R_reads' I5.out).2.2; exact h) (by have h := (Kd.R_reads' I5.out).2.1; exact h) (CT.out w5 B5.out) (by omega)) ?_; (first | exact wanted_none rfl | exact wanted_yes rfl rfl (by kernel_rfl)); (focus (go_simp; done))); rintro e w6 ⟨rfl, hb⟩; refine ⟨_, rfl, trivial, ?_⟩; have H6 := Aside0.mk (H5.out.below hb); have B6 := Aside0.mk (B5.out.trans (hb.mono B5.out.size)); clear hb; go_frame
      (apply S_val rfl; (first | exact wanted_none rfl | exact wanted_yes rfl rfl (by kernel_rfl)); (intro W hW R hR; go_simp; exact hR)); go_frame
      (apply S_val rfl; (first | exact wanted_none rfl | exact wanted_yes rfl rfl (by kernel_rfl)); (intro W hW R hR; go_simp; exact hR)); go_frame
      (refine S_call rfl ?_ ?_ (Size_as H6.out 0 NL.out) ?_; (first | exact wanted_none rfl | exact wanted_yes rfl rfl (by kernel_rfl)); (focus (go_simp; done))); rintro e w7 ⟨rfl, rfl⟩; refine ⟨_, rfl, trivial, ?_⟩; go_frame
      (apply S_val rfl; (first | exact wanted_none rfl | exact wanted_yes rfl rfl (by kernel_rfl)); (intro W hW R hR; go_simp; exact hR)); go_frame
      (apply S_val rfl; (first | exact wanted_none rfl | exact wanted_yes rfl rfl (by kernel_rfl)); (intro W hW R hR; go_simp; exact hR)); go_frame
      (apply S_val rfl; (first | exact wanted_none rfl | exact wanted_yes rfl rfl (by kernel_rfl)); (intro W hW R hR; go_simp; exact hR)); go_frame
      (apply S_val rfl; (first | exact wanted_none rfl | exact wanted_yes rfl rfl (by kernel_rfl)); (intro W hW R hR; go_simp; exact hR)); go_frame
      (apply S_val rfl; (first | exact wanted_none rfl | exact wanted_yes rfl rfl (by kernel_rfl)); (intro W hW R hR; go_simp; exact hR)); go_frame
      (apply S_val rfl; (first | exact wanted_none rfl | exact wanted_yes rfl rfl (by kernel_rfl)); (intro W hW R hR; go_simp; exact hR)); go_frame
      (apply S_val rfl; (first | exact wanted_none rfl | exact wanted_yes rfl rfl (by kernel_rfl)); (intro W hW R hR; go_simp; exact hR)); go_frame
      (refine S_call rfl ?_ ?_ (Read_as H6.out (-1) (by unfold oki; omega) 0 (newS_read _ _)) ?_; (first | exact wanted_none rfl | exact wanted_yes rfl rfl (by kernel_rfl)); (focus (go_simp; done))); rintro e w7 ⟨rfl, rfl⟩; refine ⟨_, rfl, trivial, ?_⟩; go_frame
      (apply S_val rfl; (first | exact wanted_none rfl | exact wanted_yes rfl rfl (by kernel_rfl)); (intro W hW R hR; go_simp; exact hR)); go_frame
      (apply S_val rfl; (first | exact wanted_none rfl | exact wanted_yes rfl rfl (by kernel_rfl)); (intro W hW R hR; go_simp; exact hR)); go_frame
      (apply S_val rfl; (first | exact wanted_none rfl | exact wanted_yes rfl rfl (by kernel_rfl)); (intro W hW R hR; go_simp; exact hR)); go_frame
      (apply S_val rfl; (first | exact wanted_none rfl | exact wanted_yes rfl rfl (by kernel_rfl)); (intro W hW R hR; go_simp; exact hR)); go_frame
      (apply S_val rfl; (first | exact wanted_none rfl | exact wanted_yes rfl rfl (by kernel_rfl)); (intro W hW R hR; go_simp; exact hR)); go_frame
      (refine S_call rfl ?_ ?_ (Read_as H6.out 0 (by unfold oki; omega) 0 (newS_read _ _)) ?_; (first | exact wanted_none rfl | exact wanted_yes rfl rfl (by kernel_rfl)); (focus (go_simp; done))); rintro e w7 ⟨rfl, rfl⟩; refine ⟨_, rfl, trivial, ?_⟩; go_frame
      (apply S_val rfl; (first | exact wanted_none rfl | exact wanted_yes rfl rfl (by kernel_rfl)); (intro W hW R hR; go_simp; exact hR)); go_frame
      (apply S_val rfl; (first | exact wanted_none rfl | exact wanted_yes rfl rfl (by kernel_rfl)); (intro W hW R hR; go_simp; exact hR)); go_frame
      (apply S_val rfl; (first | exact wanted_none rfl | exact wanted_yes rfl rfl (by kernel_rfl)); (intro W hW R hR; go_simp; exact hR)); go_frame
      (apply S_val rfl; (first | exact wanted_none rfl | exact wanted_yes rfl rfl (by kernel_rfl)); (intro W hW R hR; go_simp; exact hR)); go_frame
      (refine S_call rfl ?_ ?_ (Loose_as H6.out 0 (by rw [newS_keys]; rfl)) ?_; (first | exact wanted_none rfl | exact wanted_yes rfl rfl (by kernel_rfl)); (focus (go_simp; done))); rintro e w8 ⟨A8, c8, rfl, hR, hb⟩; refine ⟨_, rfl, trivial, ?_⟩; have B8 := Aside0.mk (B6.out.trans (hb.mono B6.out.size)); clear hR hb; go_frame
      (apply S_val rfl; (first | exact wanted_none rfl | exact wanted_yes rfl rfl (by kernel_rfl)); (intro W hW R hR; go_simp; exact hR)); go_frame
      (apply S_val rfl; (first | exact wanted_none rfl | exact wanted_yes rfl rfl (by kernel_rfl)); (intro W hW R hR; go_simp; exact hR)); go_frame
      (apply S_val rfl; (first | exact wanted_none rfl | exact wanted_yes rfl rfl (by kernel_rfl)); (intro W hW R hR; go_simp; exact hR)); go_frame
      (apply S_val rfl; (first | exact wanted_none rfl | exact wanted_yes rfl rfl (by kernel_rfl)); (intro W hW R hR; go_simp; exact hR)); go_frame
      refine S_nil ?_
      go_wp2
      go_ret
      exact ⟨rfl, B8.out⟩
    · by_cases k1 : n ≤ 4096
      · have x0 : min (max n 0) 4096 = n := by omega
        have x1 : max n 0 = n := by omega
        have x2 : min n 4096 = n := by omega
        rw [x0] at hnl
        have NL := Aside0.mk hnl
        have x3 : IntKind.i64.wrap (n - 1) = n - 1 := IntWalk.i64_in _ (by omega)
        clear hnl x0 k0 k1
        go_enter Try.func3, Try.ntmps3
        go_wp2_with fail
        refine (lives_calls _).mono ?_
        rintro e w1 ⟨rfl, hb⟩
        have B1 := Aside0.mk hb
        clear hb
        go_wp2_with fail
        refine (Load_calls A0 c0 l (Kd.C_below HC.out B1.out) hc0 HL.out).mono ?_
        rintro e w2 ⟨f, rfl, h2, hf, hb⟩
        have HF := Aside0.mk hf
        have B2 := Aside0.mk hb
        clear hf hb
        go_wp2_with fail
        refine (New_calls _ n HN.out).mono ?_
        rintro e w3 ⟨g, rfl, h3, hg, hb⟩
        have G := Aside0.mk hg
        have F3 := Aside0.mk (h2.below hb)
        have hlt := h2.lts
        have G3 := Aside0.mk (show ∀ w', Turn f.list w3 w' → (∀ b ∈ g.list, b ∉ f.list) → IsMem w' g (newS n) from fun w' h1 h2 => h3.kept h1 h2)
        have T3 := Aside0.mk (show ∀ b ∈ g.list, b ∉ f.list from fun b hb hm => by have := hlt b hm; have := G.out b hb; omega)
        have BB3 := Aside0.mk ((B1.out.trans (B2.out.mono B1.out.size)).trans (hb.mono (Nat.le_trans B1.out.size B2.out.size)))
        clear hg hb h2 h3 hlt
        go_wp2_with fail
        refine (Crash_calls F3.out none 0 [] (bools_nil _ _) (by simp)).mono ?_
        rintro e w4 ⟨rfl, ⟨S4, h4, hc4⟩, t4⟩
        have IM := Aside0.mk (crashed_loadS hc4)
        have R4 := Aside0.mk h4
        have GG := Aside0.mk (G3.out _ t4 T3.out)
        have BB := Aside0.mk (BB3.out.trans (t4.below BB3.out.size (fun b hb => Nat.le_trans B1.out.size (HF.out b hb))))
        clear h4 hc4 t4
        go_wp2
        refine wp_region_text (fun _ => True) (fun i => [1, 7, 10, 18, 24, 29].contains i) (by kernel_rfl) (by kernel_rfl) trivial ?_
        have R4' := R4
        clear R4
        have R4 := Aside0.mk (R4'.out.kept (Turn.drew _ []) (by simp))
        have GG' := GG
        clear GG
        have GG := Aside0.mk (GG'.out.kept (Turn.drew _ []) (by simp))
        have BB' := BB
        clear BB
        have BB := Aside0.mk (BB'.out.drew)
        clear R4' GG' BB'
        generalize w4.drew = w4d at R4 GG BB ⊢
        (apply S_val rfl; (first | exact wanted_none rfl | exact wanted_yes rfl rfl (by kernel_rfl)); (intro W hW R hR; go_simp; exact hR)); go_frame
        (refine S_call rfl ?_ ?_ (Image_as R4.out _ IM.out) ?_; (first | exact wanted_none rfl | exact wanted_yes rfl rfl (by kernel_rfl)); (focus (go_simp; done))); rintro e w5 ⟨A5, c5, rfl, hR, hb⟩; refine ⟨_, rfl, trivial, ?_⟩; have I5 := Aside0.mk hR; have R5 := Aside0.mk (R4.out.below hb); have H5 := Aside0.mk (GG.out.below hb); have B5 := Aside0.mk (BB.out.trans (hb.mono BB.out.size)); clear hR hb; go_frame
        (apply S_val rfl; (first | exact wanted_none rfl | exact wanted_yes rfl rfl (by kernel_rfl)); (intro W hW R hR; go_simp; exact hR)); go_frame
        (apply S_val rfl; (first | exact wanted_none rfl | exact wanted_yes rfl rfl (by kernel_rfl)); (intro W hW R hR; go_simp; exact hR)); go_frame
        (apply S_val rfl; (first | exact wanted_none rfl | exact wanted_yes rfl rfl (by kernel_rfl)); (intro W hW R hR; go_simp; exact hR)); go_frame
        (apply S_val rfl; (first | exact wanted_none rfl | exact wanted_yes rfl rfl (by kernel_rfl)); (intro W hW R hR; go_simp; exact hR)); go_frame
        (apply S_val rfl; (first | exact wanted_none rfl | exact wanted_yes rfl rfl (by kernel_rfl)); (intro W hW R hR; go_simp; exact hR)); go_frame
        (refine S_call rfl ?_ ?_ (Same_calls (l.take 4096) (by simp; omega) _ _ c5 _ _ c0 (by have h := (Kd.R_reads' I5.out).2.2; exact h) (by have h := (Kd.R_reads' I5.out).2.1; exact h) (CT.out w5 B5.out) (by omega)) ?_; (first | exact wanted_none rfl | exact wanted_yes rfl rfl (by kernel_rfl)); (focus (go_simp; done))); rintro e w6 ⟨rfl, hb⟩; refine ⟨_, rfl, trivial, ?_⟩; have H6 := Aside0.mk (H5.out.below hb); have B6 := Aside0.mk (B5.out.trans (hb.mono B5.out.size)); clear hb; go_frame
        (apply S_val rfl; (first | exact wanted_none rfl | exact wanted_yes rfl rfl (by kernel_rfl)); (intro W hW R hR; go_simp; exact hR)); go_frame
        (apply S_val rfl; (first | exact wanted_none rfl | exact wanted_yes rfl rfl (by kernel_rfl)); (intro W hW R hR; go_simp; exact hR)); go_frame
        (refine S_call rfl ?_ ?_ (Size_as H6.out n NL.out) ?_; (first | exact wanted_none rfl | exact wanted_yes rfl rfl (by kernel_rfl)); (focus (go_simp; done))); rintro e w7 ⟨rfl, rfl⟩; refine ⟨_, rfl, trivial, ?_⟩; go_frame
        (apply S_val rfl; (first | exact wanted_none rfl | exact wanted_yes rfl rfl (by kernel_rfl)); (intro W hW R hR; go_simp; exact hR)); go_frame
        (apply S_val rfl; (first | exact wanted_none rfl | exact wanted_yes rfl rfl (by kernel_rfl)); (intro W hW R hR; go_simp; exact hR)); go_frame
        (apply S_val rfl; (first | exact wanted_none rfl | exact wanted_yes rfl rfl (by kernel_rfl)); (intro W hW R hR; go_simp; exact hR)); go_frame
        (apply S_val rfl; (first | exact wanted_none rfl | exact wanted_yes rfl rfl (by kernel_rfl)); (intro W hW R hR; go_simp; exact hR)); go_frame
        (apply S_val rfl; (first | exact wanted_none rfl | exact wanted_yes rfl rfl (by kernel_rfl)); (intro W hW R hR; go_simp; exact hR)); go_frame
        (apply S_val rfl; (first | exact wanted_none rfl | exact wanted_yes rfl rfl (by kernel_rfl)); (intro W hW R hR; go_simp; exact hR)); go_frame
        (apply S_val rfl; (first | exact wanted_none rfl | exact wanted_yes rfl rfl (by kernel_rfl)); (intro W hW R hR; go_simp; exact hR)); go_frame
        (refine S_call rfl ?_ ?_ (Read_as H6.out (n - 1) (by unfold oki; omega) 0 (newS_read _ _)) ?_; (first | exact wanted_none rfl | exact wanted_yes rfl rfl (by kernel_rfl)); (focus (go_simp; done))); rintro e w7 ⟨rfl, rfl⟩; refine ⟨_, rfl, trivial, ?_⟩; go_frame
        (apply S_val rfl; (first | exact wanted_none rfl | exact wanted_yes rfl rfl (by kernel_rfl)); (intro W hW R hR; go_simp; exact hR)); go_frame
        (apply S_val rfl; (first | exact wanted_none rfl | exact wanted_yes rfl rfl (by kernel_rfl)); (intro W hW R hR; go_simp; exact hR)); go_frame
        (apply S_val rfl; (first | exact wanted_none rfl | exact wanted_yes rfl rfl (by kernel_rfl)); (intro W hW R hR; go_simp; exact hR)); go_frame
        (apply S_val rfl; (first | exact wanted_none rfl | exact wanted_yes rfl rfl (by kernel_rfl)); (intro W hW R hR; go_simp; exact hR)); go_frame
        (apply S_val rfl; (first | exact wanted_none rfl | exact wanted_yes rfl rfl (by kernel_rfl)); (intro W hW R hR; go_simp; exact hR)); go_frame
        (refine S_call rfl ?_ ?_ (Read_as H6.out n (by unfold oki; omega) 0 (newS_read _ _)) ?_; (first | exact wanted_none rfl | exact wanted_yes rfl rfl (by kernel_rfl)); (focus (go_simp; done))); rintro e w7 ⟨rfl, rfl⟩; refine ⟨_, rfl, trivial, ?_⟩; go_frame
        (apply S_val rfl; (first | exact wanted_none rfl | exact wanted_yes rfl rfl (by kernel_rfl)); (intro W hW R hR; go_simp; exact hR)); go_frame
        (apply S_val rfl; (first | exact wanted_none rfl | exact wanted_yes rfl rfl (by kernel_rfl)); (intro W hW R hR; go_simp; exact hR)); go_frame
        (apply S_val rfl; (first | exact wanted_none rfl | exact wanted_yes rfl rfl (by kernel_rfl)); (intro W hW R hR; go_simp; exact hR)); go_frame
        (apply S_val rfl; (first | exact wanted_none rfl | exact wanted_yes rfl rfl (by kernel_rfl)); (intro W hW R hR; go_simp; exact hR)); go_frame
        (refine S_call rfl ?_ ?_ (Loose_as H6.out 0 (by rw [newS_keys]; rfl)) ?_; (first | exact wanted_none rfl | exact wanted_yes rfl rfl (by kernel_rfl)); (focus (go_simp; done))); rintro e w8 ⟨A8, c8, rfl, hR, hb⟩; refine ⟨_, rfl, trivial, ?_⟩; have B8 := Aside0.mk (B6.out.trans (hb.mono B6.out.size)); clear hR hb; go_frame
        (apply S_val rfl; (first | exact wanted_none rfl | exact wanted_yes rfl rfl (by kernel_rfl)); (intro W hW R hR; go_simp; exact hR)); go_frame
        (apply S_val rfl; (first | exact wanted_none rfl | exact wanted_yes rfl rfl (by kernel_rfl)); (intro W hW R hR; go_simp; exact hR)); go_frame
        (apply S_val rfl; (first | exact wanted_none rfl | exact wanted_yes rfl rfl (by kernel_rfl)); (intro W hW R hR; go_simp; exact hR)); go_frame
        (apply S_val rfl; (first | exact wanted_none rfl | exact wanted_yes rfl rfl (by kernel_rfl)); (intro W hW R hR; go_simp; exact hR)); go_frame
        refine S_nil ?_
        go_wp2
        go_ret
        exact ⟨rfl, B8.out⟩
      · have x0 : min (max n 0) 4096 = 4096 := by omega
        have x1 : max n 0 = n := by omega
        have x2 : min n 4096 = 4096 := by omega
        have x3 : IntKind.i64.wrap 4095 = 4095 := IntWalk.i64_in _ (by omega)
        rw [x0] at hnl
        have NL := Aside0.mk hnl
        clear hnl x0 k0 k1
        go_enter Try.func3, Try.ntmps3
        go_wp2_with fail
        refine (lives_calls _).mono ?_
        rintro e w1 ⟨rfl, hb⟩
        have B1 := Aside0.mk hb
        clear hb
        go_wp2_with fail
        refine (Load_calls A0 c0 l (Kd.C_below HC.out B1.out) hc0 HL.out).mono ?_
        rintro e w2 ⟨f, rfl, h2, hf, hb⟩
        have HF := Aside0.mk hf
        have B2 := Aside0.mk hb
        clear hf hb
        go_wp2_with fail
        refine (New_calls _ n HN.out).mono ?_
        rintro e w3 ⟨g, rfl, h3, hg, hb⟩
        have G := Aside0.mk hg
        have F3 := Aside0.mk (h2.below hb)
        have hlt := h2.lts
        have G3 := Aside0.mk (show ∀ w', Turn f.list w3 w' → (∀ b ∈ g.list, b ∉ f.list) → IsMem w' g (newS n) from fun w' h1 h2 => h3.kept h1 h2)
        have T3 := Aside0.mk (show ∀ b ∈ g.list, b ∉ f.list from fun b hb hm => by have := hlt b hm; have := G.out b hb; omega)
        have BB3 := Aside0.mk ((B1.out.trans (B2.out.mono B1.out.size)).trans (hb.mono (Nat.le_trans B1.out.size B2.out.size)))
        clear hg hb h2 h3 hlt
        go_wp2_with fail
        refine (Crash_calls F3.out none 0 [] (bools_nil _ _) (by simp)).mono ?_
        rintro e w4 ⟨rfl, ⟨S4, h4, hc4⟩, t4⟩
        have IM := Aside0.mk (crashed_loadS hc4)
        have R4 := Aside0.mk h4
        have GG := Aside0.mk (G3.out _ t4 T3.out)
        have BB := Aside0.mk (BB3.out.trans (t4.below BB3.out.size (fun b hb => Nat.le_trans B1.out.size (HF.out b hb))))
        clear h4 hc4 t4
        go_wp2
        refine wp_region_text (fun _ => True) (fun i => [1, 7, 10, 18, 24, 29].contains i) (by kernel_rfl) (by kernel_rfl) trivial ?_
        have R4' := R4
        clear R4
        have R4 := Aside0.mk (R4'.out.kept (Turn.drew _ []) (by simp))
        have GG' := GG
        clear GG
        have GG := Aside0.mk (GG'.out.kept (Turn.drew _ []) (by simp))
        have BB' := BB
        clear BB
        have BB := Aside0.mk (BB'.out.drew)
        clear R4' GG' BB'
        generalize w4.drew = w4d at R4 GG BB ⊢
        (apply S_val rfl; (first | exact wanted_none rfl | exact wanted_yes rfl rfl (by kernel_rfl)); (intro W hW R hR; go_simp; exact hR)); go_frame
        (refine S_call rfl ?_ ?_ (Image_as R4.out _ IM.out) ?_; (first | exact wanted_none rfl | exact wanted_yes rfl rfl (by kernel_rfl)); (focus (go_simp; done))); rintro e w5 ⟨A5, c5, rfl, hR, hb⟩; refine ⟨_, rfl, trivial, ?_⟩; have I5 := Aside0.mk hR; have R5 := Aside0.mk (R4.out.below hb); have H5 := Aside0.mk (GG.out.below hb); have B5 := Aside0.mk (BB.out.trans (hb.mono BB.out.size)); clear hR hb; go_frame
        (apply S_val rfl; (first | exact wanted_none rfl | exact wanted_yes rfl rfl (by kernel_rfl)); (intro W hW R hR; go_simp; exact hR)); go_frame
        (apply S_val rfl; (first | exact wanted_none rfl | exact wanted_yes rfl rfl (by kernel_rfl)); (intro W hW R hR; go_simp; exact hR)); go_frame
        (apply S_val rfl; (first | exact wanted_none rfl | exact wanted_yes rfl rfl (by kernel_rfl)); (intro W hW R hR; go_simp; exact hR)); go_frame
        (apply S_val rfl; (first | exact wanted_none rfl | exact wanted_yes rfl rfl (by kernel_rfl)); (intro W hW R hR; go_simp; exact hR)); go_frame
        (apply S_val rfl; (first | exact wanted_none rfl | exact wanted_yes rfl rfl (by kernel_rfl)); (intro W hW R hR; go_simp; exact hR)); go_frame
        (refine S_call rfl ?_ ?_ (Same_calls (l.take 4096) (by simp; omega) _ _ c5 _ _ c0 (by have h := (Kd.R_reads' I5.out).2.2; exact h) (by have h := (Kd.R_reads' I5.out).2.1; exact h) (CT.out w5 B5.out) (by omega)) ?_; (first | exact wanted_none rfl | exact wanted_yes rfl rfl (by kernel_rfl)); (focus (go_simp; done))); rintro e w6 ⟨rfl, hb⟩; refine ⟨_, rfl, trivial, ?_⟩; have H6 := Aside0.mk (H5.out.below hb); have B6 := Aside0.mk (B5.out.trans (hb.mono B5.out.size)); clear hb; go_frame
        (apply S_val rfl; (first | exact wanted_none rfl | exact wanted_yes rfl rfl (by kernel_rfl)); (intro W hW R hR; go_simp; exact hR)); go_frame
        (apply S_val rfl; (first | exact wanted_none rfl | exact wanted_yes rfl rfl (by kernel_rfl)); (intro W hW R hR; go_simp; exact hR)); go_frame
        (refine S_call rfl ?_ ?_ (Size_as H6.out 4096 NL.out) ?_; (first | exact wanted_none rfl | exact wanted_yes rfl rfl (by kernel_rfl)); (focus (go_simp; done))); rintro e w7 ⟨rfl, rfl⟩; refine ⟨_, rfl, trivial, ?_⟩; go_frame
        (apply S_val rfl; (first | exact wanted_none rfl | exact wanted_yes rfl rfl (by kernel_rfl)); (intro W hW R hR; go_simp; exact hR)); go_frame
        (apply S_val rfl; (first | exact wanted_none rfl | exact wanted_yes rfl rfl (by kernel_rfl)); (intro W hW R hR; go_simp; exact hR)); go_frame
        (apply S_val rfl; (first | exact wanted_none rfl | exact wanted_yes rfl rfl (by kernel_rfl)); (intro W hW R hR; go_simp; exact hR)); go_frame
        (apply S_val rfl; (first | exact wanted_none rfl | exact wanted_yes rfl rfl (by kernel_rfl)); (intro W hW R hR; go_simp; exact hR)); go_frame
        (apply S_val rfl; (first | exact wanted_none rfl | exact wanted_yes rfl rfl (by kernel_rfl)); (intro W hW R hR; go_simp; exact hR)); go_frame
        (apply S_val rfl; (first | exact wanted_none rfl | exact wanted_yes rfl rfl (by kernel_rfl)); (intro W hW R hR; go_simp; exact hR)); go_frame
        (apply S_val rfl; (first | exact wanted_none rfl | exact wanted_yes rfl rfl (by kernel_rfl)); (intro W hW R hR; go_simp; exact hR)); go_frame
        (refine S_call rfl ?_ ?_ (Read_as H6.out 4095 (by unfold oki; omega) 0 (newS_read _ _)) ?_; (first | exact wanted_none rfl | exact wanted_yes rfl rfl (by kernel_rfl)); (focus (go_simp; done))); rintro e w7 ⟨rfl, rfl⟩; refine ⟨_, rfl, trivial, ?_⟩; go_frame
        (apply S_val rfl; (first | exact wanted_none rfl | exact wanted_yes rfl rfl (by kernel_rfl)); (intro W hW R hR; go_simp; exact hR)); go_frame
        (apply S_val rfl; (first | exact wanted_none rfl | exact wanted_yes rfl rfl (by kernel_rfl)); (intro W hW R hR; go_simp; exact hR)); go_frame
        (apply S_val rfl; (first | exact wanted_none rfl | exact wanted_yes rfl rfl (by kernel_rfl)); (intro W hW R hR; go_simp; exact hR)); go_frame
        (apply S_val rfl; (first | exact wanted_none rfl | exact wanted_yes rfl rfl (by kernel_rfl)); (intro W hW R hR; go_simp; exact hR)); go_frame
        (apply S_val rfl; (first | exact wanted_none rfl | exact wanted_yes rfl rfl (by kernel_rfl)); (intro W hW R hR; go_simp; exact hR)); go_frame
        (refine S_call rfl ?_ ?_ (Read_as H6.out 4096 (by unfold oki; omega) 0 (newS_read _ _)) ?_; (first | exact wanted_none rfl | exact wanted_yes rfl rfl (by kernel_rfl)); (focus (go_simp; done))); rintro e w7 ⟨rfl, rfl⟩; refine ⟨_, rfl, trivial, ?_⟩; go_frame
        (apply S_val rfl; (first | exact wanted_none rfl | exact wanted_yes rfl rfl (by kernel_rfl)); (intro W hW R hR; go_simp; exact hR)); go_frame
        (apply S_val rfl; (first | exact wanted_none rfl | exact wanted_yes rfl rfl (by kernel_rfl)); (intro W hW R hR; go_simp; exact hR)); go_frame
        (apply S_val rfl; (first | exact wanted_none rfl | exact wanted_yes rfl rfl (by kernel_rfl)); (intro W hW R hR; go_simp; exact hR)); go_frame
        (apply S_val rfl; (first | exact wanted_none rfl | exact wanted_yes rfl rfl (by kernel_rfl)); (intro W hW R hR; go_simp; exact hR)); go_frame
        (refine S_call rfl ?_ ?_ (Loose_as H6.out 0 (by rw [newS_keys]; rfl)) ?_; (first | exact wanted_none rfl | exact wanted_yes rfl rfl (by kernel_rfl)); (focus (go_simp; done))); rintro e w8 ⟨A8, c8, rfl, hR, hb⟩; refine ⟨_, rfl, trivial, ?_⟩; have B8 := Aside0.mk (B6.out.trans (hb.mono B6.out.size)); clear hR hb; go_frame
        (apply S_val rfl; (first | exact wanted_none rfl | exact wanted_yes rfl rfl (by kernel_rfl)); (intro W hW R hR; go_simp; exact hR)); go_frame
        (apply S_val rfl; (first | exact wanted_none rfl | exact wanted_yes rfl rfl (by kernel_rfl)); (intro W hW R hR; go_simp; exact hR)); go_frame
        (apply S_val rfl; (first | exact wanted_none rfl | exact wanted_yes rfl rfl (by kernel_rfl)); (intro W hW R hR; go_simp; exact hR)); go_frame
        (apply S_val rfl; (first | exact wanted_none rfl | exact wanted_yes rfl rfl (by kernel_rfl)); (intro W hW R hR; go_simp; exact hR)); go_frame
        refine S_nil ?_
        go_wp2
        go_ret
        exact ⟨rfl, B8.out⟩
end Go.Proofs.Ytifdinoioddnlaa.Mem
