/- Whether a card may be: read off its ten numbers. -/
import Derived.Test.YtpkfdoefpmgfiaaPrint0
import Derived.Test.YtpkfdoefpmgfiaaPrint1
import Derived.Test.YtpkfdoefpmgfiaaPrint3
import Derived.WalkSpells
import Derived.Test.YtpkfdoefpmgfiaaHHands
import Derived.Shelf.Lay
import Derived.Shelf.LaySoft
import Derived.Shelf.SlGeneric
import Derived.Shelf.SlicesE.IndexFunc
import Derived.Ground.SlgfProg
namespace Go.Proofs.Ytpkfdoefpmgfiaa.Print
open Go.RowKit Go.Proofs.YtpkfdoefpmgfiaaW.PrintWords Go.Proofs.YtpkfdoefpmgfiaaW.PrintLast Go.Proofs.YtpkfdoefpmgfiaaW.PrintMore
open Go.Shelf
shelf_lay_g SlLaysH.n8 Slgf 8 at Try 58 as Try.layContainsFunc
def oddB (x : Int) : Bool := decide (x < -1) || decide (96 ≤ x)
theorem odd_f (x : Int) : cards_odd.f x = some (oddB x) := by
  unfold cards_odd.f oddB
  by_cases c : x < -1
  · rw [if_pos c, decide_eq_true c]; rfl
  · rw [if_neg c, decide_eq_false c]; rfl
theorem odd_pred (w : World) : PredAt Try.prog 57 #[] (Value.int .i64) oddB w := fun W x _ => by
  show Calls Try.prog 57 #[.int .i64 x] W _
  exact (cards_odd.calls x (oddB x) W (odd_f x)).mono (fun e w' h => ⟨h.1, by obtain ⟨q, hq⟩ := h.2; exact ⟨q, hq⟩⟩)
theorem none_f (v : Int) : cards_None.f 7 v = some (0, 0, 0, v, -1, -1, -1, -1, -1, -1) := by kernel_rfl
def noneB (a0 a1 a2 a3 a4 a5 a6 a7 a8 a9 : Int) : Bool := a0 == 0 && (a1 == 0 && (a2 == 0 && (a3 == a3 && ((a4 == -1 && (a5 == -1 && (a6 == -1 && (a7 == -1 && (a8 == -1))))) && (a9 == -1)))))
def dirNone (a4 a5 a6 a7 a8 : Int) : Bool := a4 == -1 && (a5 == -1 && (a6 == -1 && (a7 == -1 && (a8 == -1))))
def fitsB (a1 a2 : Int) : Bool := decide (0 ≤ a1) && (decide (a1 ≤ 255) && (decide (0 ≤ a2) && decide (a2 ≤ 2688)))
def rightB (a0 a1 a2 a3 a4 a5 a6 a7 a8 a9 : Int) : Bool :=
  if a0 = 0 then dirNone a4 a5 a6 a7 a8 && noneB a0 a1 a2 a3 a4 a5 a6 a7 a8 a9
  else if a0 = 1 ∨ a0 = 2 ∨ a0 = 3 then fitsB a1 a2 && (!oddB a9 && !([a4, a5, a6, a7, a8].any oddB)) else false
def cards_Right.f (a0_0 a0_1 a0_2 a0_3 a0_4 a0_5 a0_6 a0_7 a0_8 a0_9 : Int) : Option Bool := some (rightB a0_0 a0_1 a0_2 a0_3 a0_4 a0_5 a0_6 a0_7 a0_8 a0_9)
theorem contains_dir (g c : Nat) (a4 a5 a6 a7 a8 : Int) (w : World) (h4 : w.cell? ⟨g, 4, none⟩ = some (.int .i64 a4)) (h5 : w.cell? ⟨g, 5, none⟩ = some (.int .i64 a5)) (h6 : w.cell? ⟨g, 6, none⟩ = some (.int .i64 a6)) (h7 : w.cell? ⟨g, 7, none⟩ = some (.int .i64 a7)) (h8 : w.cell? ⟨g, 8, none⟩ = some (.int .i64 a8)) :
    Calls Try.prog 58 #[.slice (some ⟨g, 4, none⟩) 5 c, .func (.func 57) #[] #[]] w fun e w' => e = .returned (.bool ([a4, a5, a6, a7, a8].any oddB)) ∧ ∃ q, w' = w.drewN q := by
  have eg : ∀ args w, (callFunc 57 args).run Try.prog w = .ok (.enter 57 args) w := enters_of Try.func57 (by kernel_rfl) rfl
  have h := AnyE.slices_ContainsFunc Try.layContainsFunc (Value.int .i64) oddB 57 #[] eg g 4 5 c [a4, a5, a6, a7, a8] w (odd_pred w) (Nat.le_refl _) (by omega) (fun j hj => by
    rcases j with _ | _ | _ | _ | _ | j
    · exact h4
    · exact h5
    · exact h6
    · exact h7
    · exact h8
    · simp at hj; omega)
  exact h
attribute [local go_sem high] eqA44 eqA42
set_option maxHeartbeats 4000000 in
set_option maxRecDepth 10000 in
theorem cards_Right.calls (a0_0 a0_1 a0_2 a0_3 a0_4 a0_5 a0_6 a0_7 a0_8 a0_9 : Int) (r : Bool) (w : World) (h : cards_Right.f a0_0 a0_1 a0_2 a0_3 a0_4 a0_5 a0_6 a0_7 a0_8 a0_9 = some r) :
    Calls Try.prog 53 #[.agg #[.int .i64 a0_0, .int .i64 a0_1, .int .i64 a0_2, .int .u64 a0_3, .int .i64 a0_4, .int .i64 a0_5, .int .i64 a0_6, .int .i64 a0_7, .int .i64 a0_8, .int .i64 a0_9]] w fun e w' => e = .returned (.bool r) ∧ Below w.heap.size w w' := by
  obtain rfl := Option.some.inj h
  clear h
  have HB := Aside0.mk (Below.refl w.heap.size w)
  by_cases k0 : a0_0 = 0
  · subst k0
    have HR := Aside0.mk (show rightB 0 a0_1 a0_2 a0_3 a0_4 a0_5 a0_6 a0_7 a0_8 a0_9 = (dirNone a0_4 a0_5 a0_6 a0_7 a0_8 && noneB 0 a0_1 a0_2 a0_3 a0_4 a0_5 a0_6 a0_7 a0_8 a0_9) from rfl)
    have hu23 := Try.underlying42
    have hu25 := Try.underlying44
    have HN := Aside0.mk (none_f a0_3)
    go_enter Try.func53, Try.ntmps53
    go_wp2_with (first
      | ((with_reducible refine gate_dst (N := 1) rfl ?_); refine box_event ?hg (N := 1) ?hd (cs := #[.int .i64 0, .int .i64 a0_1, .int .i64 a0_2, .int .u64 a0_3, .int .i64 a0_4, .int .i64 a0_5, .int .i64 a0_6, .int .i64 a0_7, .int .i64 a0_8, .int .i64 a0_9]) (t := 44) ?hr ?_; (case hd => rfl); (case hg => rfl); (case hr => first | (go_simp; done) | (go_simp; rfl)); intro g hg w4 hbox hb; have HB1 := Aside0.mk hb; have GE := Aside0.mk (show w.heap.size ≤ g by rw [hg]; exact Nat.le_refl _); have BK := Aside0.mk hbox; clear hb hg HB; have hc0 : w4.cell? ⟨g, 0, none⟩ = some (.int .i64 0) := (blk_cell hbox 0).trans rfl; have hc3 : w4.cell? ⟨g, 3, none⟩ = some (.int .u64 a0_3) := (blk_cell hbox 3).trans rfl; clear hbox)
      | (go_at_call 41; refine (cards_None.calls 7 a0_3 _ _ _ _ _ _ _ _ _ _ _ HN.out).mono ?_; rintro e w5 ⟨rfl, hb⟩; have HB2 := Aside0.mk (below_step HB1.out hb); have BK2 := Aside0.mk (blk_below BK.out hb); clear hb HB1 BK hc0 hc3)
      | ((with_reducible refine gate_dst (N := 3) rfl ?_); refine box_event ?hg (N := 3) ?hd (cs := #[.int .i64 0, .int .i64 0, .int .i64 0, .int .u64 0, .int .i64 0, .int .i64 0, .int .i64 0, .int .i64 0, .int .i64 0, .int .i64 0]) (t := 44) ?hr ?_; (case hd => rfl); (case hg => rfl); (case hr => first | (go_simp; done) | (go_simp; rfl)); intro g2 hg w6 hbox hb; have HB3 := Aside0.mk (below_step HB2.out hb); have GE2 := Aside0.mk (show w.heap.size ≤ g2 by rw [hg]; exact below_size HB2.out); have HNE := Aside0.mk (show g ≠ g2 by rw [hg]; exact Nat.ne_of_lt (blk_lt BK2.out)); have BK3 := Aside0.mk (blk_below BK2.out hb); have BN := Aside0.mk hbox; clear hb hg BK2 HB2 hbox)
      | ((with_reducible refine gate_store (t := 44) (p := 3) rfl ?_); refine store_event (t := 44) (p := 3) (v := .tmp 11) (w1 := w6.setCells g2 0 [.int .i64 0, .int .i64 0, .int .i64 0, .int .u64 a0_3, .int .i64 (-1), .int .i64 (-1), .int .i64 (-1), .int .i64 (-1), .int .i64 (-1), .int .i64 (-1)]) ?hg ?ho ?hn ?hr ?_; (case ho => rfl); (case hg => rfl); (case hn => rfl); (case hr => exact store_exec rfl rfl rfl (run_store_run (P := Try.prog) (o := 0) 44 (.agg #[.int .i64 0, .int .i64 0, .int .i64 0, .int .u64 a0_3, .int .i64 (-1), .int .i64 (-1), .int .i64 (-1), .int .i64 (-1), .int .i64 (-1), .int .i64 (-1)]) [.int .i64 0, .int .i64 0, .int .i64 0, .int .u64 a0_3, .int .i64 (-1), .int .i64 (-1), .int .i64 (-1), .int .i64 (-1), .int .i64 (-1), .int .i64 (-1)] BN.out rfl (by kernel_rfl) (Nat.le_refl 10) (fun q hq => by simp at hq; rcases hq with rfl | rfl | rfl | rfl | rfl | rfl | rfl | rfl | rfl | rfl <;> rfl))); intro w8 hw; have HB4 := Aside0.mk (show Below w.heap.size w w8 by rw [hw]; exact below_store _ HB3.out GE2.out); have hA := (by rw [hw]; exact store_far _ BK3.out HNE.out : w8.heap[g]? = some (.cells #[.int .i64 0, .int .i64 a0_1, .int .i64 a0_2, .int .u64 a0_3, .int .i64 a0_4, .int .i64 a0_5, .int .i64 a0_6, .int .i64 a0_7, .int .i64 a0_8, .int .i64 a0_9] 44 (0, 0))); have hN := (by rw [hw]; exact store_all _ BN.out rfl : w8.heap[g2]? = some (.cells #[.int .i64 0, .int .i64 0, .int .i64 0, .int .u64 a0_3, .int .i64 (-1), .int .i64 (-1), .int .i64 (-1), .int .i64 (-1), .int .i64 (-1), .int .i64 (-1)] 44 (0, 0))); clear hw HB3 BK3 BN; have hd0 : w8.cell? ⟨g, 0, none⟩ = some (.int .i64 0) := (blk_cell hA 0).trans rfl; have he0 : w8.cell? ⟨g2, 0, none⟩ = some (.int .i64 0) := (blk_cell hN 0).trans rfl; have hd1 : w8.cell? ⟨g, 1, none⟩ = some (.int .i64 a0_1) := (blk_cell hA 1).trans rfl; have he1 : w8.cell? ⟨g2, 1, none⟩ = some (.int .i64 0) := (blk_cell hN 1).trans rfl; have hd2 : w8.cell? ⟨g, 2, none⟩ = some (.int .i64 a0_2) := (blk_cell hA 2).trans rfl; have he2 : w8.cell? ⟨g2, 2, none⟩ = some (.int .i64 0) := (blk_cell hN 2).trans rfl; have hd3 : w8.cell? ⟨g, 3, none⟩ = some (.int .u64 a0_3) := (blk_cell hA 3).trans rfl; have he3 : w8.cell? ⟨g2, 3, none⟩ = some (.int .u64 a0_3) := (blk_cell hN 3).trans rfl; have hd4 : w8.cell? ⟨g, 4, none⟩ = some (.int .i64 a0_4) := (blk_cell hA 4).trans rfl; have he4 : w8.cell? ⟨g2, 4, none⟩ = some (.int .i64 (-1)) := (blk_cell hN 4).trans rfl; have hd5 : w8.cell? ⟨g, 5, none⟩ = some (.int .i64 a0_5) := (blk_cell hA 5).trans rfl; have he5 : w8.cell? ⟨g2, 5, none⟩ = some (.int .i64 (-1)) := (blk_cell hN 5).trans rfl; have hd6 : w8.cell? ⟨g, 6, none⟩ = some (.int .i64 a0_6) := (blk_cell hA 6).trans rfl; have he6 : w8.cell? ⟨g2, 6, none⟩ = some (.int .i64 (-1)) := (blk_cell hN 6).trans rfl; have hd7 : w8.cell? ⟨g, 7, none⟩ = some (.int .i64 a0_7) := (blk_cell hA 7).trans rfl; have he7 : w8.cell? ⟨g2, 7, none⟩ = some (.int .i64 (-1)) := (blk_cell hN 7).trans rfl; have hd8 : w8.cell? ⟨g, 8, none⟩ = some (.int .i64 a0_8) := (blk_cell hA 8).trans rfl; have he8 : w8.cell? ⟨g2, 8, none⟩ = some (.int .i64 (-1)) := (blk_cell hN 8).trans rfl; have hd9 : w8.cell? ⟨g, 9, none⟩ = some (.int .i64 a0_9) := (blk_cell hA 9).trans rfl; have he9 : w8.cell? ⟨g2, 9, none⟩ = some (.int .i64 (-1)) := (blk_cell hN 9).trans rfl; clear hA hN))
    all_goals
      go_ret
      refine ⟨?_, HB4.out⟩
      rw [HR.out]
      simp_all [dirNone, noneB]
  · by_cases k1 : a0_0 = 1 ∨ a0_0 = 2 ∨ a0_0 = 3
    · have HR := Aside0.mk (show rightB a0_0 a0_1 a0_2 a0_3 a0_4 a0_5 a0_6 a0_7 a0_8 a0_9 = (fitsB a0_1 a0_2 && (!oddB a0_9 && !([a0_4, a0_5, a0_6, a0_7, a0_8].any oddB))) by unfold rightB; rw [if_neg k0, if_pos k1])
      clear k0
      have path : decide (0 ≤ a0_1) = false ∨ (decide (0 ≤ a0_1) = true ∧ decide (a0_1 ≤ 255) = false) ∨ (decide (0 ≤ a0_1) = true ∧ decide (a0_1 ≤ 255) = true ∧ decide (0 ≤ a0_2) = false) ∨ (decide (0 ≤ a0_1) = true ∧ decide (a0_1 ≤ 255) = true ∧ decide (0 ≤ a0_2) = true ∧ decide (a0_2 ≤ 2688) = false)
          ∨ (decide (0 ≤ a0_1) = true ∧ decide (a0_1 ≤ 255) = true ∧ decide (0 ≤ a0_2) = true ∧ decide (a0_2 ≤ 2688) = true) := by
        by_cases c1 : 0 ≤ a0_1 <;> by_cases c2 : a0_1 ≤ 255 <;> by_cases c3 : 0 ≤ a0_2 <;> by_cases c4 : a0_2 ≤ 2688 <;> simp [c1, c2, c3, c4]
      generalize hS : [a0_4, a0_5, a0_6, a0_7, a0_8].any oddB = s at HR
      generalize hO : oddB a0_9 = o at HR
      have hS' := Aside0.mk hS
      have hO' := Aside0.mk (hO ▸ odd_f a0_9)
      clear hS hO
      have HF := Aside0.mk (show fitsB a0_1 a0_2 = (decide (0 ≤ a0_1) && (decide (a0_1 ≤ 255) && (decide (0 ≤ a0_2) && decide (a0_2 ≤ 2688)))) from rfl)
      obtain rfl | rfl | rfl := k1
      · rcases path with c1 | ⟨c1, c2⟩ | ⟨c1, c2, c3⟩ | ⟨c1, c2, c3, c4⟩ | ⟨c1, c2, c3, c4⟩
        · have HQ := Aside0.mk HF.out
          have HR2 := Aside0.mk (show rightB 1 a0_1 a0_2 a0_3 a0_4 a0_5 a0_6 a0_7 a0_8 a0_9 = false by rw [HR.out, HF.out, c1]; rfl)
          clear hS' hO' HR HF HQ
          go_enter Try.func53, Try.ntmps53
          go_wp2_with (first | ((with_reducible refine gate_dst (N := 1) rfl ?_); refine box_event ?hg (N := 1) ?hd (cs := #[.int .i64 1, .int .i64 a0_1, .int .i64 a0_2, .int .u64 a0_3, .int .i64 a0_4, .int .i64 a0_5, .int .i64 a0_6, .int .i64 a0_7, .int .i64 a0_8, .int .i64 a0_9]) (t := 44) ?hr ?_; (case hd => rfl); (case hg => rfl); (case hr => first | (go_simp; done) | (go_simp; rfl)); intro g hg w4 hbox hb; have HB1 := Aside0.mk hb; have GE := Aside0.mk (show w.heap.size ≤ g by rw [hg]; exact Nat.le_refl _); have BK := Aside0.mk hbox; clear hb hg HB; have hc0 : w4.cell? ⟨g, 0, none⟩ = some (.int .i64 1) := (blk_cell hbox 0).trans rfl; have hc1 : w4.cell? ⟨g, 1, none⟩ = some (.int .i64 a0_1) := (blk_cell hbox 1).trans rfl; have hc2 : w4.cell? ⟨g, 2, none⟩ = some (.int .i64 a0_2) := (blk_cell hbox 2).trans rfl; clear hbox))
          go_ret
          exact ⟨by rw [HR2.out]; rfl, HB1.out⟩
        · have HQ := Aside0.mk HF.out
          have HR2 := Aside0.mk (show rightB 1 a0_1 a0_2 a0_3 a0_4 a0_5 a0_6 a0_7 a0_8 a0_9 = false by rw [HR.out, HF.out, c1, c2]; rfl)
          clear hS' hO' HR HF HQ
          go_enter Try.func53, Try.ntmps53
          go_wp2_with (first | ((with_reducible refine gate_dst (N := 1) rfl ?_); refine box_event ?hg (N := 1) ?hd (cs := #[.int .i64 1, .int .i64 a0_1, .int .i64 a0_2, .int .u64 a0_3, .int .i64 a0_4, .int .i64 a0_5, .int .i64 a0_6, .int .i64 a0_7, .int .i64 a0_8, .int .i64 a0_9]) (t := 44) ?hr ?_; (case hd => rfl); (case hg => rfl); (case hr => first | (go_simp; done) | (go_simp; rfl)); intro g hg w4 hbox hb; have HB1 := Aside0.mk hb; have GE := Aside0.mk (show w.heap.size ≤ g by rw [hg]; exact Nat.le_refl _); have BK := Aside0.mk hbox; clear hb hg HB; have hc0 : w4.cell? ⟨g, 0, none⟩ = some (.int .i64 1) := (blk_cell hbox 0).trans rfl; have hc1 : w4.cell? ⟨g, 1, none⟩ = some (.int .i64 a0_1) := (blk_cell hbox 1).trans rfl; have hc2 : w4.cell? ⟨g, 2, none⟩ = some (.int .i64 a0_2) := (blk_cell hbox 2).trans rfl; clear hbox))
          go_ret
          exact ⟨by rw [HR2.out]; rfl, HB1.out⟩
        · have HQ := Aside0.mk HF.out
          have HR2 := Aside0.mk (show rightB 1 a0_1 a0_2 a0_3 a0_4 a0_5 a0_6 a0_7 a0_8 a0_9 = false by rw [HR.out, HF.out, c1, c2, c3]; rfl)
          clear hS' hO' HR HF HQ
          go_enter Try.func53, Try.ntmps53
          go_wp2_with (first | ((with_reducible refine gate_dst (N := 1) rfl ?_); refine box_event ?hg (N := 1) ?hd (cs := #[.int .i64 1, .int .i64 a0_1, .int .i64 a0_2, .int .u64 a0_3, .int .i64 a0_4, .int .i64 a0_5, .int .i64 a0_6, .int .i64 a0_7, .int .i64 a0_8, .int .i64 a0_9]) (t := 44) ?hr ?_; (case hd => rfl); (case hg => rfl); (case hr => first | (go_simp; done) | (go_simp; rfl)); intro g hg w4 hbox hb; have HB1 := Aside0.mk hb; have GE := Aside0.mk (show w.heap.size ≤ g by rw [hg]; exact Nat.le_refl _); have BK := Aside0.mk hbox; clear hb hg HB; have hc0 : w4.cell? ⟨g, 0, none⟩ = some (.int .i64 1) := (blk_cell hbox 0).trans rfl; have hc1 : w4.cell? ⟨g, 1, none⟩ = some (.int .i64 a0_1) := (blk_cell hbox 1).trans rfl; have hc2 : w4.cell? ⟨g, 2, none⟩ = some (.int .i64 a0_2) := (blk_cell hbox 2).trans rfl; clear hbox))
          go_ret
          exact ⟨by rw [HR2.out]; rfl, HB1.out⟩
        · have HQ := Aside0.mk HF.out
          have HR2 := Aside0.mk (show rightB 1 a0_1 a0_2 a0_3 a0_4 a0_5 a0_6 a0_7 a0_8 a0_9 = false by rw [HR.out, HF.out, c1, c2, c3, c4]; rfl)
          clear hS' hO' HR HF HQ
          go_enter Try.func53, Try.ntmps53
          go_wp2_with (first | ((with_reducible refine gate_dst (N := 1) rfl ?_); refine box_event ?hg (N := 1) ?hd (cs := #[.int .i64 1, .int .i64 a0_1, .int .i64 a0_2, .int .u64 a0_3, .int .i64 a0_4, .int .i64 a0_5, .int .i64 a0_6, .int .i64 a0_7, .int .i64 a0_8, .int .i64 a0_9]) (t := 44) ?hr ?_; (case hd => rfl); (case hg => rfl); (case hr => first | (go_simp; done) | (go_simp; rfl)); intro g hg w4 hbox hb; have HB1 := Aside0.mk hb; have GE := Aside0.mk (show w.heap.size ≤ g by rw [hg]; exact Nat.le_refl _); have BK := Aside0.mk hbox; clear hb hg HB; have hc0 : w4.cell? ⟨g, 0, none⟩ = some (.int .i64 1) := (blk_cell hbox 0).trans rfl; have hc1 : w4.cell? ⟨g, 1, none⟩ = some (.int .i64 a0_1) := (blk_cell hbox 1).trans rfl; have hc2 : w4.cell? ⟨g, 2, none⟩ = some (.int .i64 a0_2) := (blk_cell hbox 2).trans rfl; clear hbox))
          go_ret
          exact ⟨by rw [HR2.out]; rfl, HB1.out⟩
        · have HQ := Aside0.mk HF.out
          have HR2 := Aside0.mk (show rightB 1 a0_1 a0_2 a0_3 a0_4 a0_5 a0_6 a0_7 a0_8 a0_9 = (!o && !s) by rw [HR.out, HF.out, c1, c2, c3, c4]; rfl)
          clear HR HF HQ
          cases o with
          | true =>
            go_enter Try.func53, Try.ntmps53
            go_wp2_with (first
          | ((with_reducible refine gate_dst (N := 1) rfl ?_); refine box_event ?hg (N := 1) ?hd (cs := #[.int .i64 1, .int .i64 a0_1, .int .i64 a0_2, .int .u64 a0_3, .int .i64 a0_4, .int .i64 a0_5, .int .i64 a0_6, .int .i64 a0_7, .int .i64 a0_8, .int .i64 a0_9]) (t := 44) ?hr ?_; (case hd => rfl); (case hg => rfl); (case hr => first | (go_simp; done) | (go_simp; rfl)); intro g hg w4 hbox hb; have HB1 := Aside0.mk hb; have GE := Aside0.mk (show w.heap.size ≤ g by rw [hg]; exact Nat.le_refl _); have BK := Aside0.mk hbox; clear hb hg HB; have hc0 : w4.cell? ⟨g, 0, none⟩ = some (.int .i64 1) := (blk_cell hbox 0).trans rfl; have hc1 : w4.cell? ⟨g, 1, none⟩ = some (.int .i64 a0_1) := (blk_cell hbox 1).trans rfl; have hc2 : w4.cell? ⟨g, 2, none⟩ = some (.int .i64 a0_2) := (blk_cell hbox 2).trans rfl; have hc9 : w4.cell? ⟨g, 9, none⟩ = some (.int .i64 a0_9) := (blk_cell hbox 9).trans rfl; clear hbox)
          | (go_at_call 57; refine (cards_odd.calls a0_9 _ _ hO'.out).mono ?_; rintro e w5 ⟨rfl, ⟨nd, rfl⟩⟩)
          | (go_at_call 58; refine (contains_dir g _ a0_4 a0_5 a0_6 a0_7 a0_8 _ ((blk_cell (blk_drewN BK.out nd) 4).trans rfl) ((blk_cell (blk_drewN BK.out nd) 5).trans rfl) ((blk_cell (blk_drewN BK.out nd) 6).trans rfl) ((blk_cell (blk_drewN BK.out nd) 7).trans rfl) ((blk_cell (blk_drewN BK.out nd) 8).trans rfl)).mono ?_; rintro e w6 ⟨rfl, ⟨nd2, rfl⟩⟩; rw [hS'.out]))
            go_ret
            exact ⟨by rw [HR2.out]; cases s <;> rfl, by (with_reducible repeat (first | exact HB1.out | apply pw_below_drewN | apply below_drew1))⟩
          | false =>
            go_enter Try.func53, Try.ntmps53
            go_wp2_with (first
          | ((with_reducible refine gate_dst (N := 1) rfl ?_); refine box_event ?hg (N := 1) ?hd (cs := #[.int .i64 1, .int .i64 a0_1, .int .i64 a0_2, .int .u64 a0_3, .int .i64 a0_4, .int .i64 a0_5, .int .i64 a0_6, .int .i64 a0_7, .int .i64 a0_8, .int .i64 a0_9]) (t := 44) ?hr ?_; (case hd => rfl); (case hg => rfl); (case hr => first | (go_simp; done) | (go_simp; rfl)); intro g hg w4 hbox hb; have HB1 := Aside0.mk hb; have GE := Aside0.mk (show w.heap.size ≤ g by rw [hg]; exact Nat.le_refl _); have BK := Aside0.mk hbox; clear hb hg HB; have hc0 : w4.cell? ⟨g, 0, none⟩ = some (.int .i64 1) := (blk_cell hbox 0).trans rfl; have hc1 : w4.cell? ⟨g, 1, none⟩ = some (.int .i64 a0_1) := (blk_cell hbox 1).trans rfl; have hc2 : w4.cell? ⟨g, 2, none⟩ = some (.int .i64 a0_2) := (blk_cell hbox 2).trans rfl; have hc9 : w4.cell? ⟨g, 9, none⟩ = some (.int .i64 a0_9) := (blk_cell hbox 9).trans rfl; clear hbox)
          | (go_at_call 57; refine (cards_odd.calls a0_9 _ _ hO'.out).mono ?_; rintro e w5 ⟨rfl, ⟨nd, rfl⟩⟩)
          | (go_at_call 58; refine (contains_dir g _ a0_4 a0_5 a0_6 a0_7 a0_8 _ ((blk_cell (blk_drewN BK.out nd) 4).trans rfl) ((blk_cell (blk_drewN BK.out nd) 5).trans rfl) ((blk_cell (blk_drewN BK.out nd) 6).trans rfl) ((blk_cell (blk_drewN BK.out nd) 7).trans rfl) ((blk_cell (blk_drewN BK.out nd) 8).trans rfl)).mono ?_; rintro e w6 ⟨rfl, ⟨nd2, rfl⟩⟩; rw [hS'.out]))
            go_ret
            exact ⟨by rw [HR2.out]; cases s <;> rfl, by (with_reducible repeat (first | exact HB1.out | apply pw_below_drewN | apply below_drew1))⟩
      · rcases path with c1 | ⟨c1, c2⟩ | ⟨c1, c2, c3⟩ | ⟨c1, c2, c3, c4⟩ | ⟨c1, c2, c3, c4⟩
        · have HQ := Aside0.mk HF.out
          have HR2 := Aside0.mk (show rightB 2 a0_1 a0_2 a0_3 a0_4 a0_5 a0_6 a0_7 a0_8 a0_9 = false by rw [HR.out, HF.out, c1]; rfl)
          clear hS' hO' HR HF HQ
          go_enter Try.func53, Try.ntmps53
          go_wp2_with (first | ((with_reducible refine gate_dst (N := 1) rfl ?_); refine box_event ?hg (N := 1) ?hd (cs := #[.int .i64 2, .int .i64 a0_1, .int .i64 a0_2, .int .u64 a0_3, .int .i64 a0_4, .int .i64 a0_5, .int .i64 a0_6, .int .i64 a0_7, .int .i64 a0_8, .int .i64 a0_9]) (t := 44) ?hr ?_; (case hd => rfl); (case hg => rfl); (case hr => first | (go_simp; done) | (go_simp; rfl)); intro g hg w4 hbox hb; have HB1 := Aside0.mk hb; have GE := Aside0.mk (show w.heap.size ≤ g by rw [hg]; exact Nat.le_refl _); have BK := Aside0.mk hbox; clear hb hg HB; have hc0 : w4.cell? ⟨g, 0, none⟩ = some (.int .i64 2) := (blk_cell hbox 0).trans rfl; have hc1 : w4.cell? ⟨g, 1, none⟩ = some (.int .i64 a0_1) := (blk_cell hbox 1).trans rfl; have hc2 : w4.cell? ⟨g, 2, none⟩ = some (.int .i64 a0_2) := (blk_cell hbox 2).trans rfl; clear hbox))
          go_ret
          exact ⟨by rw [HR2.out]; rfl, HB1.out⟩
        · have HQ := Aside0.mk HF.out
          have HR2 := Aside0.mk (show rightB 2 a0_1 a0_2 a0_3 a0_4 a0_5 a0_6 a0_7 a0_8 a0_9 = false by rw [HR.out, HF.out, c1, c2]; rfl)
          clear hS' hO' HR HF HQ
          go_enter Try.func53, Try.ntmps53
          go_wp2_with (first | ((with_reducible refine gate_dst (N := 1) rfl ?_); refine box_event ?hg (N := 1) ?hd (cs := #[.int .i64 2, .int .i64 a0_1, .int .i64 a0_2, .int .u64 a0_3, .int .i64 a0_4, .int .i64 a0_5, .int .i64 a0_6, .int .i64 a0_7, .int .i64 a0_8, .int .i64 a0_9]) (t := 44) ?hr ?_; (case hd => rfl); (case hg => rfl); (case hr => first | (go_simp; done) | (go_simp; rfl)); intro g hg w4 hbox hb; have HB1 := Aside0.mk hb; have GE := Aside0.mk (show w.heap.size ≤ g by rw [hg]; exact Nat.le_refl _); have BK := Aside0.mk hbox; clear hb hg HB; have hc0 : w4.cell? ⟨g, 0, none⟩ = some (.int .i64 2) := (blk_cell hbox 0).trans rfl; have hc1 : w4.cell? ⟨g, 1, none⟩ = some (.int .i64 a0_1) := (blk_cell hbox 1).trans rfl; have hc2 : w4.cell? ⟨g, 2, none⟩ = some (.int .i64 a0_2) := (blk_cell hbox 2).trans rfl; clear hbox))
          go_ret
          exact ⟨by rw [HR2.out]; rfl, HB1.out⟩
        · have HQ := Aside0.mk HF.out
          have HR2 := Aside0.mk (show rightB 2 a0_1 a0_2 a0_3 a0_4 a0_5 a0_6 a0_7 a0_8 a0_9 = false by rw [HR.out, HF.out, c1, c2, c3]; rfl)
          clear hS' hO' HR HF HQ
          go_enter Try.func53, Try.ntmps53
          go_wp2_with (first | ((with_reducible refine gate_dst (N := 1) rfl ?_); refine box_event ?hg (N := 1) ?hd (cs := #[.int .i64 2, .int .i64 a0_1, .int .i64 a0_2, .int .u64 a0_3, .int .i64 a0_4, .int .i64 a0_5, .int .i64 a0_6, .int .i64 a0_7, .int .i64 a0_8, .int .i64 a0_9]) (t := 44) ?hr ?_; (case hd => rfl); (case hg => rfl); (case hr => first | (go_simp; done) | (go_simp; rfl)); intro g hg w4 hbox hb; have HB1 := Aside0.mk hb; have GE := Aside0.mk (show w.heap.size ≤ g by rw [hg]; exact Nat.le_refl _); have BK := Aside0.mk hbox; clear hb hg HB; have hc0 : w4.cell? ⟨g, 0, none⟩ = some (.int .i64 2) := (blk_cell hbox 0).trans rfl; have hc1 : w4.cell? ⟨g, 1, none⟩ = some (.int .i64 a0_1) := (blk_cell hbox 1).trans rfl; have hc2 : w4.cell? ⟨g, 2, none⟩ = some (.int .i64 a0_2) := (blk_cell hbox 2).trans rfl; clear hbox))
          go_ret
          exact ⟨by rw [HR2.out]; rfl, HB1.out⟩
        · have HQ := Aside0.mk HF.out
          have HR2 := Aside0.mk (show rightB 2 a0_1 a0_2 a0_3 a0_4 a0_5 a0_6 a0_7 a0_8 a0_9 = false by rw [HR.out, HF.out, c1, c2, c3, c4]; rfl)
          clear hS' hO' HR HF HQ
          go_enter Try.func53, Try.ntmps53
          go_wp2_with (first | ((with_reducible refine gate_dst (N := 1) rfl ?_); refine box_event ?hg (N := 1) ?hd (cs := #[.int .i64 2, .int .i64 a0_1, .int .i64 a0_2, .int .u64 a0_3, .int .i64 a0_4, .int .i64 a0_5, .int .i64 a0_6, .int .i64 a0_7, .int .i64 a0_8, .int .i64 a0_9]) (t := 44) ?hr ?_; (case hd => rfl); (case hg => rfl); (case hr => first | (go_simp; done) | (go_simp; rfl)); intro g hg w4 hbox hb; have HB1 := Aside0.mk hb; have GE := Aside0.mk (show w.heap.size ≤ g by rw [hg]; exact Nat.le_refl _); have BK := Aside0.mk hbox; clear hb hg HB; have hc0 : w4.cell? ⟨g, 0, none⟩ = some (.int .i64 2) := (blk_cell hbox 0).trans rfl; have hc1 : w4.cell? ⟨g, 1, none⟩ = some (.int .i64 a0_1) := (blk_cell hbox 1).trans rfl; have hc2 : w4.cell? ⟨g, 2, none⟩ = some (.int .i64 a0_2) := (blk_cell hbox 2).trans rfl; clear hbox))
          go_ret
          exact ⟨by rw [HR2.out]; rfl, HB1.out⟩
        · have HQ := Aside0.mk HF.out
          have HR2 := Aside0.mk (show rightB 2 a0_1 a0_2 a0_3 a0_4 a0_5 a0_6 a0_7 a0_8 a0_9 = (!o && !s) by rw [HR.out, HF.out, c1, c2, c3, c4]; rfl)
          clear HR HF HQ
          cases o with
          | true =>
            go_enter Try.func53, Try.ntmps53
            go_wp2_with (first
          | ((with_reducible refine gate_dst (N := 1) rfl ?_); refine box_event ?hg (N := 1) ?hd (cs := #[.int .i64 2, .int .i64 a0_1, .int .i64 a0_2, .int .u64 a0_3, .int .i64 a0_4, .int .i64 a0_5, .int .i64 a0_6, .int .i64 a0_7, .int .i64 a0_8, .int .i64 a0_9]) (t := 44) ?hr ?_; (case hd => rfl); (case hg => rfl); (case hr => first | (go_simp; done) | (go_simp; rfl)); intro g hg w4 hbox hb; have HB1 := Aside0.mk hb; have GE := Aside0.mk (show w.heap.size ≤ g by rw [hg]; exact Nat.le_refl _); have BK := Aside0.mk hbox; clear hb hg HB; have hc0 : w4.cell? ⟨g, 0, none⟩ = some (.int .i64 2) := (blk_cell hbox 0).trans rfl; have hc1 : w4.cell? ⟨g, 1, none⟩ = some (.int .i64 a0_1) := (blk_cell hbox 1).trans rfl; have hc2 : w4.cell? ⟨g, 2, none⟩ = some (.int .i64 a0_2) := (blk_cell hbox 2).trans rfl; have hc9 : w4.cell? ⟨g, 9, none⟩ = some (.int .i64 a0_9) := (blk_cell hbox 9).trans rfl; clear hbox)
          | (go_at_call 57; refine (cards_odd.calls a0_9 _ _ hO'.out).mono ?_; rintro e w5 ⟨rfl, ⟨nd, rfl⟩⟩)
          | (go_at_call 58; refine (contains_dir g _ a0_4 a0_5 a0_6 a0_7 a0_8 _ ((blk_cell (blk_drewN BK.out nd) 4).trans rfl) ((blk_cell (blk_drewN BK.out nd) 5).trans rfl) ((blk_cell (blk_drewN BK.out nd) 6).trans rfl) ((blk_cell (blk_drewN BK.out nd) 7).trans rfl) ((blk_cell (blk_drewN BK.out nd) 8).trans rfl)).mono ?_; rintro e w6 ⟨rfl, ⟨nd2, rfl⟩⟩; rw [hS'.out]))
            go_ret
            exact ⟨by rw [HR2.out]; cases s <;> rfl, by (with_reducible repeat (first | exact HB1.out | apply pw_below_drewN | apply below_drew1))⟩
          | false =>
            go_enter Try.func53, Try.ntmps53
            go_wp2_with (first
          | ((with_reducible refine gate_dst (N := 1) rfl ?_); refine box_event ?hg (N := 1) ?hd (cs := #[.int .i64 2, .int .i64 a0_1, .int .i64 a0_2, .int .u64 a0_3, .int .i64 a0_4, .int .i64 a0_5, .int .i64 a0_6, .int .i64 a0_7, .int .i64 a0_8, .int .i64 a0_9]) (t := 44) ?hr ?_; (case hd => rfl); (case hg => rfl); (case hr => first | (go_simp; done) | (go_simp; rfl)); intro g hg w4 hbox hb; have HB1 := Aside0.mk hb; have GE := Aside0.mk (show w.heap.size ≤ g by rw [hg]; exact Nat.le_refl _); have BK := Aside0.mk hbox; clear hb hg HB; have hc0 : w4.cell? ⟨g, 0, none⟩ = some (.int .i64 2) := (blk_cell hbox 0).trans rfl; have hc1 : w4.cell? ⟨g, 1, none⟩ = some (.int .i64 a0_1) := (blk_cell hbox 1).trans rfl; have hc2 : w4.cell? ⟨g, 2, none⟩ = some (.int .i64 a0_2) := (blk_cell hbox 2).trans rfl; have hc9 : w4.cell? ⟨g, 9, none⟩ = some (.int .i64 a0_9) := (blk_cell hbox 9).trans rfl; clear hbox)
          | (go_at_call 57; refine (cards_odd.calls a0_9 _ _ hO'.out).mono ?_; rintro e w5 ⟨rfl, ⟨nd, rfl⟩⟩)
          | (go_at_call 58; refine (contains_dir g _ a0_4 a0_5 a0_6 a0_7 a0_8 _ ((blk_cell (blk_drewN BK.out nd) 4).trans rfl) ((blk_cell (blk_drewN BK.out nd) 5).trans rfl) ((blk_cell (blk_drewN BK.out nd) 6).trans rfl) ((blk_cell (blk_drewN BK.out nd) 7).trans rfl) ((blk_cell (blk_drewN BK.out nd) 8).trans rfl)).mono ?_; rintro e w6 ⟨rfl, ⟨nd2, rfl⟩⟩; rw [hS'.out]))
            go_ret
            exact ⟨by rw [HR2.out]; cases s <;> rfl, by (with_reducible repeat (first | exact HB1.out | apply pw_below_drewN | apply below_drew1))⟩
      · rcases path with c1 | ⟨c1, c2⟩ | ⟨c1, c2, c3⟩ | ⟨c1, c2, c3, c4⟩ | ⟨c1, c2, c3, c4⟩
        · have HQ := Aside0.mk HF.out
          have HR2 := Aside0.mk (show rightB 3 a0_1 a0_2 a0_3 a0_4 a0_5 a0_6 a0_7 a0_8 a0_9 = false by rw [HR.out, HF.out, c1]; rfl)
          clear hS' hO' HR HF HQ
          go_enter Try.func53, Try.ntmps53
          go_wp2_with (first | ((with_reducible refine gate_dst (N := 1) rfl ?_); refine box_event ?hg (N := 1) ?hd (cs := #[.int .i64 3, .int .i64 a0_1, .int .i64 a0_2, .int .u64 a0_3, .int .i64 a0_4, .int .i64 a0_5, .int .i64 a0_6, .int .i64 a0_7, .int .i64 a0_8, .int .i64 a0_9]) (t := 44) ?hr ?_; (case hd => rfl); (case hg => rfl); (case hr => first | (go_simp; done) | (go_simp; rfl)); intro g hg w4 hbox hb; have HB1 := Aside0.mk hb; have GE := Aside0.mk (show w.heap.size ≤ g by rw [hg]; exact Nat.le_refl _); have BK := Aside0.mk hbox; clear hb hg HB; have hc0 : w4.cell? ⟨g, 0, none⟩ = some (.int .i64 3) := (blk_cell hbox 0).trans rfl; have hc1 : w4.cell? ⟨g, 1, none⟩ = some (.int .i64 a0_1) := (blk_cell hbox 1).trans rfl; have hc2 : w4.cell? ⟨g, 2, none⟩ = some (.int .i64 a0_2) := (blk_cell hbox 2).trans rfl; clear hbox))
          go_ret
          exact ⟨by rw [HR2.out]; rfl, HB1.out⟩
        · have HQ := Aside0.mk HF.out
          have HR2 := Aside0.mk (show rightB 3 a0_1 a0_2 a0_3 a0_4 a0_5 a0_6 a0_7 a0_8 a0_9 = false by rw [HR.out, HF.out, c1, c2]; rfl)
          clear hS' hO' HR HF HQ
          go_enter Try.func53, Try.ntmps53
          go_wp2_with (first | ((with_reducible refine gate_dst (N := 1) rfl ?_); refine box_event ?hg (N := 1) ?hd (cs := #[.int .i64 3, .int .i64 a0_1, .int .i64 a0_2, .int .u64 a0_3, .int .i64 a0_4, .int .i64 a0_5, .int .i64 a0_6, .int .i64 a0_7, .int .i64 a0_8, .int .i64 a0_9]) (t := 44) ?hr ?_; (case hd => rfl); (case hg => rfl); (case hr => first | (go_simp; done) | (go_simp; rfl)); intro g hg w4 hbox hb; have HB1 := Aside0.mk hb; have GE := Aside0.mk (show w.heap.size ≤ g by rw [hg]; exact Nat.le_refl _); have BK := Aside0.mk hbox; clear hb hg HB; have hc0 : w4.cell? ⟨g, 0, none⟩ = some (.int .i64 3) := (blk_cell hbox 0).trans rfl; have hc1 : w4.cell? ⟨g, 1, none⟩ = some (.int .i64 a0_1) := (blk_cell hbox 1).trans rfl; have hc2 : w4.cell? ⟨g, 2, none⟩ = some (.int .i64 a0_2) := (blk_cell hbox 2).trans rfl; clear hbox))
          go_ret
          exact ⟨by rw [HR2.out]; rfl, HB1.out⟩
        · have HQ := Aside0.mk HF.out
          have HR2 := Aside0.mk (show rightB 3 a0_1 a0_2 a0_3 a0_4 a0_5 a0_6 a0_7 a0_8 a0_9 = false by rw [HR.out, HF.out, c1, c2, c3]; rfl)
          clear hS' hO' HR HF HQ
          go_enter Try.func53, Try.ntmps53
          go_wp2_with (first | ((with_reducible refine gate_dst (N := 1) rfl ?_); refine box_event ?hg (N := 1) ?hd (cs := #[.int .i64 3, .int .i64 a0_1, .int .i64 a0_2, .int .u64 a0_3, .int .i64 a0_4, .int .i64 a0_5, .int .i64 a0_6, .int .i64 a0_7, .int .i64 a0_8, .int .i64 a0_9]) (t := 44) ?hr ?_; (case hd => rfl); (case hg => rfl); (case hr => first | (go_simp; done) | (go_simp; rfl)); intro g hg w4 hbox hb; have HB1 := Aside0.mk hb; have GE := Aside0.mk (show w.heap.size ≤ g by rw [hg]; exact Nat.le_refl _); have BK := Aside0.mk hbox; clear hb hg HB; have hc0 : w4.cell? ⟨g, 0, none⟩ = some (.int .i64 3) := (blk_cell hbox 0).trans rfl; have hc1 : w4.cell? ⟨g, 1, none⟩ = some (.int .i64 a0_1) := (blk_cell hbox 1).trans rfl; have hc2 : w4.cell? ⟨g, 2, none⟩ = some (.int .i64 a0_2) := (blk_cell hbox 2).trans rfl; clear hbox))
          go_ret
          exact ⟨by rw [HR2.out]; rfl, HB1.out⟩
        · have HQ := Aside0.mk HF.out
          have HR2 := Aside0.mk (show rightB 3 a0_1 a0_2 a0_3 a0_4 a0_5 a0_6 a0_7 a0_8 a0_9 = false by rw [HR.out, HF.out, c1, c2, c3, c4]; rfl)
          clear hS' hO' HR HF HQ
          go_enter Try.func53, Try.ntmps53
          go_wp2_with (first | ((with_reducible refine gate_dst (N := 1) rfl ?_); refine box_event ?hg (N := 1) ?hd (cs := #[.int .i64 3, .int .i64 a0_1, .int .i64 a0_2, .int .u64 a0_3, .int .i64 a0_4, .int .i64 a0_5, .int .i64 a0_6, .int .i64 a0_7, .int .i64 a0_8, .int .i64 a0_9]) (t := 44) ?hr ?_; (case hd => rfl); (case hg => rfl); (case hr => first | (go_simp; done) | (go_simp; rfl)); intro g hg w4 hbox hb; have HB1 := Aside0.mk hb; have GE := Aside0.mk (show w.heap.size ≤ g by rw [hg]; exact Nat.le_refl _); have BK := Aside0.mk hbox; clear hb hg HB; have hc0 : w4.cell? ⟨g, 0, none⟩ = some (.int .i64 3) := (blk_cell hbox 0).trans rfl; have hc1 : w4.cell? ⟨g, 1, none⟩ = some (.int .i64 a0_1) := (blk_cell hbox 1).trans rfl; have hc2 : w4.cell? ⟨g, 2, none⟩ = some (.int .i64 a0_2) := (blk_cell hbox 2).trans rfl; clear hbox))
          go_ret
          exact ⟨by rw [HR2.out]; rfl, HB1.out⟩
        · have HQ := Aside0.mk HF.out
          have HR2 := Aside0.mk (show rightB 3 a0_1 a0_2 a0_3 a0_4 a0_5 a0_6 a0_7 a0_8 a0_9 = (!o && !s) by rw [HR.out, HF.out, c1, c2, c3, c4]; rfl)
          clear HR HF HQ
          cases o with
          | true =>
            go_enter Try.func53, Try.ntmps53
            go_wp2_with (first
          | ((with_reducible refine gate_dst (N := 1) rfl ?_); refine box_event ?hg (N := 1) ?hd (cs := #[.int .i64 3, .int .i64 a0_1, .int .i64 a0_2, .int .u64 a0_3, .int .i64 a0_4, .int .i64 a0_5, .int .i64 a0_6, .int .i64 a0_7, .int .i64 a0_8, .int .i64 a0_9]) (t := 44) ?hr ?_; (case hd => rfl); (case hg => rfl); (case hr => first | (go_simp; done) | (go_simp; rfl)); intro g hg w4 hbox hb; have HB1 := Aside0.mk hb; have GE := Aside0.mk (show w.heap.size ≤ g by rw [hg]; exact Nat.le_refl _); have BK := Aside0.mk hbox; clear hb hg HB; have hc0 : w4.cell? ⟨g, 0, none⟩ = some (.int .i64 3) := (blk_cell hbox 0).trans rfl; have hc1 : w4.cell? ⟨g, 1, none⟩ = some (.int .i64 a0_1) := (blk_cell hbox 1).trans rfl; have hc2 : w4.cell? ⟨g, 2, none⟩ = some (.int .i64 a0_2) := (blk_cell hbox 2).trans rfl; have hc9 : w4.cell? ⟨g, 9, none⟩ = some (.int .i64 a0_9) := (blk_cell hbox 9).trans rfl; clear hbox)
          | (go_at_call 57; refine (cards_odd.calls a0_9 _ _ hO'.out).mono ?_; rintro e w5 ⟨rfl, ⟨nd, rfl⟩⟩)
          | (go_at_call 58; refine (contains_dir g _ a0_4 a0_5 a0_6 a0_7 a0_8 _ ((blk_cell (blk_drewN BK.out nd) 4).trans rfl) ((blk_cell (blk_drewN BK.out nd) 5).trans rfl) ((blk_cell (blk_drewN BK.out nd) 6).trans rfl) ((blk_cell (blk_drewN BK.out nd) 7).trans rfl) ((blk_cell (blk_drewN BK.out nd) 8).trans rfl)).mono ?_; rintro e w6 ⟨rfl, ⟨nd2, rfl⟩⟩; rw [hS'.out]))
            go_ret
            exact ⟨by rw [HR2.out]; cases s <;> rfl, by (with_reducible repeat (first | exact HB1.out | apply pw_below_drewN | apply below_drew1))⟩
          | false =>
            go_enter Try.func53, Try.ntmps53
            go_wp2_with (first
          | ((with_reducible refine gate_dst (N := 1) rfl ?_); refine box_event ?hg (N := 1) ?hd (cs := #[.int .i64 3, .int .i64 a0_1, .int .i64 a0_2, .int .u64 a0_3, .int .i64 a0_4, .int .i64 a0_5, .int .i64 a0_6, .int .i64 a0_7, .int .i64 a0_8, .int .i64 a0_9]) (t := 44) ?hr ?_; (case hd => rfl); (case hg => rfl); (case hr => first | (go_simp; done) | (go_simp; rfl)); intro g hg w4 hbox hb; have HB1 := Aside0.mk hb; have GE := Aside0.mk (show w.heap.size ≤ g by rw [hg]; exact Nat.le_refl _); have BK := Aside0.mk hbox; clear hb hg HB; have hc0 : w4.cell? ⟨g, 0, none⟩ = some (.int .i64 3) := (blk_cell hbox 0).trans rfl; have hc1 : w4.cell? ⟨g, 1, none⟩ = some (.int .i64 a0_1) := (blk_cell hbox 1).trans rfl; have hc2 : w4.cell? ⟨g, 2, none⟩ = some (.int .i64 a0_2) := (blk_cell hbox 2).trans rfl; have hc9 : w4.cell? ⟨g, 9, none⟩ = some (.int .i64 a0_9) := (blk_cell hbox 9).trans rfl; clear hbox)
          | (go_at_call 57; refine (cards_odd.calls a0_9 _ _ hO'.out).mono ?_; rintro e w5 ⟨rfl, ⟨nd, rfl⟩⟩)
          | (go_at_call 58; refine (contains_dir g _ a0_4 a0_5 a0_6 a0_7 a0_8 _ ((blk_cell (blk_drewN BK.out nd) 4).trans rfl) ((blk_cell (blk_drewN BK.out nd) 5).trans rfl) ((blk_cell (blk_drewN BK.out nd) 6).trans rfl) ((blk_cell (blk_drewN BK.out nd) 7).trans rfl) ((blk_cell (blk_drewN BK.out nd) 8).trans rfl)).mono ?_; rintro e w6 ⟨rfl, ⟨nd2, rfl⟩⟩; rw [hS'.out]))
            go_ret
            exact ⟨by rw [HR2.out]; cases s <;> rfl, by (with_reducible repeat (first | exact HB1.out | apply pw_below_drewN | apply below_drew1))⟩
    · have HR := Aside0.mk (show rightB a0_0 a0_1 a0_2 a0_3 a0_4 a0_5 a0_6 a0_7 a0_8 a0_9 = false by unfold rightB; rw [if_neg k0, if_neg k1])
      have b0 : (a0_0 == 0) = false := beq_eq_false_iff_ne.mpr k0
      have b1 : (a0_0 == 1) = false := beq_eq_false_iff_ne.mpr (fun e => k1 (.inl e))
      have b2 : (a0_0 == 2) = false := beq_eq_false_iff_ne.mpr (fun e => k1 (.inr (.inl e)))
      have b3 : (a0_0 == 3) = false := beq_eq_false_iff_ne.mpr (fun e => k1 (.inr (.inr e)))
      clear k0 k1
      go_enter Try.func53, Try.ntmps53
      go_wp2_with (first
        | ((with_reducible refine gate_dst (N := 1) rfl ?_); refine box_event ?hg (N := 1) ?hd (cs := #[.int .i64 a0_0, .int .i64 a0_1, .int .i64 a0_2, .int .u64 a0_3, .int .i64 a0_4, .int .i64 a0_5, .int .i64 a0_6, .int .i64 a0_7, .int .i64 a0_8, .int .i64 a0_9]) (t := 44) ?hr ?_; (case hd => rfl); (case hg => rfl); (case hr => first | (go_simp; done) | (go_simp; rfl)); intro g hg w4 hbox hb; have HB1 := Aside0.mk hb; clear hb hg HB; have hc0 : w4.cell? ⟨g, 0, none⟩ = some (.int .i64 a0_0) := (blk_cell hbox 0).trans rfl; clear hbox))
      go_ret
      exact ⟨by rw [HR.out]; rfl, HB1.out⟩
end Go.Proofs.Ytpkfdoefpmgfiaa.Print
