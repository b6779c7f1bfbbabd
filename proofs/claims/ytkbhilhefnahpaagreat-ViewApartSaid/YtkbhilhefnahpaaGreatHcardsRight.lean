/- Whether a card may be: read off its ten numbers. -/
import Derived.Test.YtkbhilhefnahpaaGreatPrint0
import Derived.Test.YtkbhilhefnahpaaGreatPrint1
import Derived.Test.YtkbhilhefnahpaaGreatPrint6
import Derived.WalkSpells
import Derived.Test.YtkbhilhefnahpaaGreatHHands
import Derived.Shelf.Lay
import Derived.Shelf.LaySoft
import Derived.Shelf.SlGeneric
import Derived.Shelf.SlicesE.IndexFunc
import Derived.Ground.SlgfProg
namespace Go.Proofs.YtkbhilhefnahpaaGreat.Print
open Go.RowKit Go.Proofs.YtkbhilhefnahpaaGreatW.PrintWords Go.Proofs.YtkbhilhefnahpaaGreatW.PrintLast Go.Proofs.YtkbhilhefnahpaaGreatW.PrintMore
open Go.Shelf
shelf_lay_g SlLaysH.n8 Slgf 8 at Tryz 91 as Tryz.layContainsFunc
def oddB (x : Int) : Bool := decide (x < -1) || decide (96 ≤ x)
theorem odd_f (x : Int) : cards_odd.f x = some (oddB x) := by
 unfold cards_odd.f oddB
 by_cases c : x < -1
 ·rw [if_pos c, decide_eq_true c]; rfl
 ·rw [if_neg c, decide_eq_false c]; rfl
theorem odd_pred (w : World) : PredAt Tryz.prog 90 #[] (Value.int .i64) oddB w := fun W x _ => by
 show Calls Tryz.prog 90 #[.int .i64 x] W _
 exact (cards_odd.calls x (oddB x) W (odd_f x)).mono (fun e w' h => ⟨h.1, by obtain ⟨q, hq⟩ := h.2; exact ⟨q, hq⟩⟩)
theorem none_f (v : Int) : cards_None.f 7 v = some (0, 0, 0, v, -1, -1, -1, -1, -1, -1) := by kernel_rfl
def noneB (a0 a1 a2 a3 a4 a5 a6 a7 a8 a9 : Int) : Bool := a0 == 0 && (a1 == 0 && (a2 == 0 && (a3 == a3 && ((a4 == -1 && (a5 == -1 && (a6 == -1 && (a7 == -1 && (a8 == -1))))) && (a9 == -1)))))
def dirNone (a4 a5 a6 a7 a8 : Int) : Bool := a4 == -1 && (a5 == -1 && (a6 == -1 && (a7 == -1 && (a8 == -1))))
def fitsB (a1 a2 : Int) : Bool := decide (0 ≤ a1) && (decide (a1 ≤ 255) && (decide (0 ≤ a2) && decide (a2 ≤ 2688)))
def yl (a0 a1 a2 a3 a4 a5 a6 a7 a8 a9 : Int) : Bool :=
 if a0 = 0 then dirNone a4 a5 a6 a7 a8 && noneB a0 a1 a2 a3 a4 a5 a6 a7 a8 a9
 else if a0 = 1 ∨ a0 = 2 ∨ a0 = 3 then fitsB a1 a2 && (!oddB a9 && !([a4, a5, a6, a7, a8].any oddB)) else false
def cards_Right.f (a0_0 a0_1 a0_2 a0_3 a0_4 a0_5 a0_6 a0_7 a0_8 a0_9 : Int) : Option Bool := some (yl a0_0 a0_1 a0_2 a0_3 a0_4 a0_5 a0_6 a0_7 a0_8 a0_9)
theorem Zg (g c : Nat) (a4 a5 a6 a7 a8 : Int) (w : World) (h4 : w.cell? ⟨g, 4, none⟩ = some (.int .i64 a4)) (h5 : w.cell? ⟨g, 5, none⟩ = some (.int .i64 a5)) (h6 : w.cell? ⟨g, 6, none⟩ = some (.int .i64 a6)) (h7 : w.cell? ⟨g, 7, none⟩ = some (.int .i64 a7)) (h8 : w.cell? ⟨g, 8, none⟩ = some (.int .i64 a8)) :
  Calls Tryz.prog 91 #[.slice (some ⟨g, 4, none⟩) 5 c, .func (.func 90) #[] #[]] w fun e w' => e = .returned (.bool ([a4, a5, a6, a7, a8].any oddB)) ∧ ∃ q, w' = w.drewN q := by
 have eg : ∀ args w, (callFunc 90 args).run Tryz.prog w = .ok (.enter 90 args) w := enters_of Tryz.func90 (by kernel_rfl) rfl
 have h := AnyE.slices_ContainsFunc Tryz.layContainsFunc (Value.int .i64) oddB 90 #[] eg g 4 5 c [a4, a5, a6, a7, a8] w (odd_pred w) (Nat.le_refl _) (by omega) (fun j hj => by
  rcases j with _ | _ | _ | _ | _ | j
  ·exact h4
  ·exact h5
  ·exact h6
  ·exact h7
  ·exact h8
  ·simp at hj; omega)
 exact h
attribute [local go_sem high] eqA37 eqA35
set_option maxHeartbeats 4000000 in
set_option maxRecDepth 10000 in
theorem cards_Right.calls (a0_0 a0_1 a0_2 a0_3 a0_4 a0_5 a0_6 a0_7 a0_8 a0_9 : Int) (r : Bool) (w : World) (h : cards_Right.f a0_0 a0_1 a0_2 a0_3 a0_4 a0_5 a0_6 a0_7 a0_8 a0_9 = some r) :
  Calls Tryz.prog 71 #[.agg #[.int .i64 a0_0, .int .i64 a0_1, .int .i64 a0_2, .int .u64 a0_3, .int .i64 a0_4, .int .i64 a0_5, .int .i64 a0_6, .int .i64 a0_7, .int .i64 a0_8, .int .i64 a0_9]] w fun e w' => e = .returned (.bool r) ∧ Below w.heap.size w w' := by
 obtain rfl := Option.some.inj h
 clear h
 have HB := ze.mk (Below.refl w.heap.size w)
 by_cases k0 : a0_0 = 0
 ·subst k0
  have HR := ze.mk (show yl 0 a0_1 a0_2 a0_3 a0_4 a0_5 a0_6 a0_7 a0_8 a0_9 = (dirNone a0_4 a0_5 a0_6 a0_7 a0_8 && noneB 0 a0_1 a0_2 a0_3 a0_4 a0_5 a0_6 a0_7 a0_8 a0_9) from rfl)
  have hu23 := Tryz.underlying35
  have hu25 := Tryz.underlying37
  have HN := ze.mk (none_f a0_3)
  go_enter Tryz.func71, Tryz.ntmps71
  go_wp2_with (first
   | ((with_reducible refine zD (N := 1) rfl ?_); refine zC ?hg (N := 1) ?hd (cs := #[.int .i64 0, .int .i64 a0_1, .int .i64 a0_2, .int .u64 a0_3, .int .i64 a0_4, .int .i64 a0_5, .int .i64 a0_6, .int .i64 a0_7, .int .i64 a0_8, .int .i64 a0_9]) (t := 37) ?hr ?_; (case hd => rfl); (case hg => rfl); (case hr => first | (go_simp; done) | (go_simp; rfl)); intro g hg w4 hbox hb; have HB1 := ze.mk hb; have GE := ze.mk (show w.heap.size ≤ g by rw [hg]; exact Nat.le_refl _); have BK := ze.mk hbox; clear hb hg HB; have hc0 : w4.cell? ⟨g, 0, none⟩ = some (.int .i64 0) := (zb hbox 0).trans rfl; have hc3 : w4.cell? ⟨g, 3, none⟩ = some (.int .u64 a0_3) := (zb hbox 3).trans rfl; clear hbox)
   | (go_at_call 89; refine (cards_None.calls 7 a0_3 _ _ _ _ _ _ _ _ _ _ _ HN.o).mono ?_; rintro e w5 ⟨rfl, hb⟩; have HB2 := ze.mk (zu HB1.o hb); have BK2 := ze.mk (zK BK.o hb); clear hb HB1 BK hc0 hc3)
   | ((with_reducible refine zD (N := 3) rfl ?_); refine zC ?hg (N := 3) ?hd (cs := #[.int .i64 0, .int .i64 0, .int .i64 0, .int .u64 0, .int .i64 0, .int .i64 0, .int .i64 0, .int .i64 0, .int .i64 0, .int .i64 0]) (t := 37) ?hr ?_; (case hd => rfl); (case hg => rfl); (case hr => first | (go_simp; done) | (go_simp; rfl)); intro g2 hg w6 hbox hb; have HB3 := ze.mk (zu HB2.o hb); have GE2 := ze.mk (show w.heap.size ≤ g2 by rw [hg]; exact zt HB2.o); have HNE := ze.mk (show g ≠ g2 by rw [hg]; exact Nat.ne_of_lt (yL BK2.o)); have BK3 := ze.mk (zK BK2.o hb); have BN := ze.mk hbox; clear hb hg BK2 HB2 hbox)
   | ((with_reducible refine zJ (t := 37) (p := 3) rfl ?_); refine zH (t := 37) (p := 3) (v := .tmp 11) (w1 := w6.setCells g2 0 [.int .i64 0, .int .i64 0, .int .i64 0, .int .u64 a0_3, .int .i64 (-1), .int .i64 (-1), .int .i64 (-1), .int .i64 (-1), .int .i64 (-1), .int .i64 (-1)]) ?hg ?ho ?hn ?hr ?_; (case ho => rfl); (case hg => rfl); (case hn => rfl); (case hr => exact store_exec rfl rfl rfl (zP (P := Tryz.prog) (o := 0) 37 (.agg #[.int .i64 0, .int .i64 0, .int .i64 0, .int .u64 a0_3, .int .i64 (-1), .int .i64 (-1), .int .i64 (-1), .int .i64 (-1), .int .i64 (-1), .int .i64 (-1)]) [.int .i64 0, .int .i64 0, .int .i64 0, .int .u64 a0_3, .int .i64 (-1), .int .i64 (-1), .int .i64 (-1), .int .i64 (-1), .int .i64 (-1), .int .i64 (-1)] BN.o rfl (by kernel_rfl) (Nat.le_refl 10) (fun q hq => by simp at hq; rcases hq with rfl | rfl | rfl | rfl | rfl | rfl | rfl | rfl | rfl | rfl <;> rfl))); intro w8 hw; have HB4 := ze.mk (show Below w.heap.size w w8 by rw [hw]; exact below_store _ HB3.o GE2.o); have hA := (by rw [hw]; exact store_far _ BK3.o HNE.o : w8.heap[g]? = some (.cells #[.int .i64 0, .int .i64 a0_1, .int .i64 a0_2, .int .u64 a0_3, .int .i64 a0_4, .int .i64 a0_5, .int .i64 a0_6, .int .i64 a0_7, .int .i64 a0_8, .int .i64 a0_9] 37 (0, 0))); have hN := (by rw [hw]; exact store_all _ BN.o rfl : w8.heap[g2]? = some (.cells #[.int .i64 0, .int .i64 0, .int .i64 0, .int .u64 a0_3, .int .i64 (-1), .int .i64 (-1), .int .i64 (-1), .int .i64 (-1), .int .i64 (-1), .int .i64 (-1)] 37 (0, 0))); clear hw HB3 BK3 BN; have hd0 : w8.cell? ⟨g, 0, none⟩ = some (.int .i64 0) := (zb hA 0).trans rfl; have he0 : w8.cell? ⟨g2, 0, none⟩ = some (.int .i64 0) := (zb hN 0).trans rfl; have hd1 : w8.cell? ⟨g, 1, none⟩ = some (.int .i64 a0_1) := (zb hA 1).trans rfl; have he1 : w8.cell? ⟨g2, 1, none⟩ = some (.int .i64 0) := (zb hN 1).trans rfl; have hd2 : w8.cell? ⟨g, 2, none⟩ = some (.int .i64 a0_2) := (zb hA 2).trans rfl; have he2 : w8.cell? ⟨g2, 2, none⟩ = some (.int .i64 0) := (zb hN 2).trans rfl; have hd3 : w8.cell? ⟨g, 3, none⟩ = some (.int .u64 a0_3) := (zb hA 3).trans rfl; have he3 : w8.cell? ⟨g2, 3, none⟩ = some (.int .u64 a0_3) := (zb hN 3).trans rfl; have hd4 : w8.cell? ⟨g, 4, none⟩ = some (.int .i64 a0_4) := (zb hA 4).trans rfl; have he4 : w8.cell? ⟨g2, 4, none⟩ = some (.int .i64 (-1)) := (zb hN 4).trans rfl; have hd5 : w8.cell? ⟨g, 5, none⟩ = some (.int .i64 a0_5) := (zb hA 5).trans rfl; have he5 : w8.cell? ⟨g2, 5, none⟩ = some (.int .i64 (-1)) := (zb hN 5).trans rfl; have hd6 : w8.cell? ⟨g, 6, none⟩ = some (.int .i64 a0_6) := (zb hA 6).trans rfl; have he6 : w8.cell? ⟨g2, 6, none⟩ = some (.int .i64 (-1)) := (zb hN 6).trans rfl; have hd7 : w8.cell? ⟨g, 7, none⟩ = some (.int .i64 a0_7) := (zb hA 7).trans rfl; have he7 : w8.cell? ⟨g2, 7, none⟩ = some (.int .i64 (-1)) := (zb hN 7).trans rfl; have hd8 : w8.cell? ⟨g, 8, none⟩ = some (.int .i64 a0_8) := (zb hA 8).trans rfl; have he8 : w8.cell? ⟨g2, 8, none⟩ = some (.int .i64 (-1)) := (zb hN 8).trans rfl; have hd9 : w8.cell? ⟨g, 9, none⟩ = some (.int .i64 a0_9) := (zb hA 9).trans rfl; have he9 : w8.cell? ⟨g2, 9, none⟩ = some (.int .i64 (-1)) := (zb hN 9).trans rfl; clear hA hN))
  all_goals
   go_ret
   refine ⟨?_, HB4.o⟩
   rw [HR.o]
   simp_all [dirNone, noneB]
 ·by_cases k1 : a0_0 = 1 ∨ a0_0 = 2 ∨ a0_0 = 3
  ·have HR := ze.mk (show yl a0_0 a0_1 a0_2 a0_3 a0_4 a0_5 a0_6 a0_7 a0_8 a0_9 = (fitsB a0_1 a0_2 && (!oddB a0_9 && !([a0_4, a0_5, a0_6, a0_7, a0_8].any oddB))) by unfold yl; rw [if_neg k0, if_pos k1])
   clear k0
   have path : decide (0 ≤ a0_1) = false ∨ (decide (0 ≤ a0_1) = true ∧ decide (a0_1 ≤ 255) = false) ∨ (decide (0 ≤ a0_1) = true ∧ decide (a0_1 ≤ 255) = true ∧ decide (0 ≤ a0_2) = false) ∨ (decide (0 ≤ a0_1) = true ∧ decide (a0_1 ≤ 255) = true ∧ decide (0 ≤ a0_2) = true ∧ decide (a0_2 ≤ 2688) = false)
     ∨ (decide (0 ≤ a0_1) = true ∧ decide (a0_1 ≤ 255) = true ∧ decide (0 ≤ a0_2) = true ∧ decide (a0_2 ≤ 2688) = true) := by
    by_cases c1 : 0 ≤ a0_1 <;> by_cases c2 : a0_1 ≤ 255 <;> by_cases c3 : 0 ≤ a0_2 <;> by_cases c4 : a0_2 ≤ 2688 <;> simp [c1, c2, c3, c4]
   generalize hS : [a0_4, a0_5, a0_6, a0_7, a0_8].any oddB = s at HR
   generalize hO : oddB a0_9 = o at HR
   have hS' := ze.mk hS
   have hO' := ze.mk (hO ▸ odd_f a0_9)
   clear hS hO
   have HF := ze.mk (show fitsB a0_1 a0_2 = (decide (0 ≤ a0_1) && (decide (a0_1 ≤ 255) && (decide (0 ≤ a0_2) && decide (a0_2 ≤ 2688)))) from rfl)
   obtain rfl | rfl | rfl := k1
   ·rcases path with c1 | ⟨c1, c2⟩ | ⟨c1, c2, c3⟩ | ⟨c1, c2, c3, c4⟩ | ⟨c1, c2, c3, c4⟩
    ·have HQ := ze.mk HF.o
     have HR2 := ze.mk (show yl 1 a0_1 a0_2 a0_3 a0_4 a0_5 a0_6 a0_7 a0_8 a0_9 = false by rw [HR.o, HF.o, c1]; rfl)
     clear hS' hO' HR HF HQ
     go_enter Tryz.func71, Tryz.ntmps71
     go_wp2_with (first | ((with_reducible refine zD (N := 1) rfl ?_); refine zC ?hg (N := 1) ?hd (cs := #[.int .i64 1, .int .i64 a0_1, .int .i64 a0_2, .int .u64 a0_3, .int .i64 a0_4, .int .i64 a0_5, .int .i64 a0_6, .int .i64 a0_7, .int .i64 a0_8, .int .i64 a0_9]) (t := 37) ?hr ?_; (case hd => rfl); (case hg => rfl); (case hr => first | (go_simp; done) | (go_simp; rfl)); intro g hg w4 hbox hb; have HB1 := ze.mk hb; have GE := ze.mk (show w.heap.size ≤ g by rw [hg]; exact Nat.le_refl _); have BK := ze.mk hbox; clear hb hg HB; have hc0 : w4.cell? ⟨g, 0, none⟩ = some (.int .i64 1) := (zb hbox 0).trans rfl; have hc1 : w4.cell? ⟨g, 1, none⟩ = some (.int .i64 a0_1) := (zb hbox 1).trans rfl; have hc2 : w4.cell? ⟨g, 2, none⟩ = some (.int .i64 a0_2) := (zb hbox 2).trans rfl; clear hbox))
     go_ret
     exact ⟨by rw [HR2.o]; rfl, HB1.o⟩
    ·have HQ := ze.mk HF.o
     have HR2 := ze.mk (show yl 1 a0_1 a0_2 a0_3 a0_4 a0_5 a0_6 a0_7 a0_8 a0_9 = false by rw [HR.o, HF.o, c1, c2]; rfl)
     clear hS' hO' HR HF HQ
     go_enter Tryz.func71, Tryz.ntmps71
     go_wp2_with (first | ((with_reducible refine zD (N := 1) rfl ?_); refine zC ?hg (N := 1) ?hd (cs := #[.int .i64 1, .int .i64 a0_1, .int .i64 a0_2, .int .u64 a0_3, .int .i64 a0_4, .int .i64 a0_5, .int .i64 a0_6, .int .i64 a0_7, .int .i64 a0_8, .int .i64 a0_9]) (t := 37) ?hr ?_; (case hd => rfl); (case hg => rfl); (case hr => first | (go_simp; done) | (go_simp; rfl)); intro g hg w4 hbox hb; have HB1 := ze.mk hb; have GE := ze.mk (show w.heap.size ≤ g by rw [hg]; exact Nat.le_refl _); have BK := ze.mk hbox; clear hb hg HB; have hc0 : w4.cell? ⟨g, 0, none⟩ = some (.int .i64 1) := (zb hbox 0).trans rfl; have hc1 : w4.cell? ⟨g, 1, none⟩ = some (.int .i64 a0_1) := (zb hbox 1).trans rfl; have hc2 : w4.cell? ⟨g, 2, none⟩ = some (.int .i64 a0_2) := (zb hbox 2).trans rfl; clear hbox))
     go_ret
     exact ⟨by rw [HR2.o]; rfl, HB1.o⟩
    ·have HQ := ze.mk HF.o
     have HR2 := ze.mk (show yl 1 a0_1 a0_2 a0_3 a0_4 a0_5 a0_6 a0_7 a0_8 a0_9 = false by rw [HR.o, HF.o, c1, c2, c3]; rfl)
     clear hS' hO' HR HF HQ
     go_enter Tryz.func71, Tryz.ntmps71
     go_wp2_with (first | ((with_reducible refine zD (N := 1) rfl ?_); refine zC ?hg (N := 1) ?hd (cs := #[.int .i64 1, .int .i64 a0_1, .int .i64 a0_2, .int .u64 a0_3, .int .i64 a0_4, .int .i64 a0_5, .int .i64 a0_6, .int .i64 a0_7, .int .i64 a0_8, .int .i64 a0_9]) (t := 37) ?hr ?_; (case hd => rfl); (case hg => rfl); (case hr => first | (go_simp; done) | (go_simp; rfl)); intro g hg w4 hbox hb; have HB1 := ze.mk hb; have GE := ze.mk (show w.heap.size ≤ g by rw [hg]; exact Nat.le_refl _); have BK := ze.mk hbox; clear hb hg HB; have hc0 : w4.cell? ⟨g, 0, none⟩ = some (.int .i64 1) := (zb hbox 0).trans rfl; have hc1 : w4.cell? ⟨g, 1, none⟩ = some (.int .i64 a0_1) := (zb hbox 1).trans rfl; have hc2 : w4.cell? ⟨g, 2, none⟩ = some (.int .i64 a0_2) := (zb hbox 2).trans rfl; clear hbox))
     go_ret
     exact ⟨by rw [HR2.o]; rfl, HB1.o⟩
    ·have HQ := ze.mk HF.o
     have HR2 := ze.mk (show yl 1 a0_1 a0_2 a0_3 a0_4 a0_5 a0_6 a0_7 a0_8 a0_9 = false by rw [HR.o, HF.o, c1, c2, c3, c4]; rfl)
     clear hS' hO' HR HF HQ
     go_enter Tryz.func71, Tryz.ntmps71
     go_wp2_with (first | ((with_reducible refine zD (N := 1) rfl ?_); refine zC ?hg (N := 1) ?hd (cs := #[.int .i64 1, .int .i64 a0_1, .int .i64 a0_2, .int .u64 a0_3, .int .i64 a0_4, .int .i64 a0_5, .int .i64 a0_6, .int .i64 a0_7, .int .i64 a0_8, .int .i64 a0_9]) (t := 37) ?hr ?_; (case hd => rfl); (case hg => rfl); (case hr => first | (go_simp; done) | (go_simp; rfl)); intro g hg w4 hbox hb; have HB1 := ze.mk hb; have GE := ze.mk (show w.heap.size ≤ g by rw [hg]; exact Nat.le_refl _); have BK := ze.mk hbox; clear hb hg HB; have hc0 : w4.cell? ⟨g, 0, none⟩ = some (.int .i64 1) := (zb hbox 0).trans rfl; have hc1 : w4.cell? ⟨g, 1, none⟩ = some (.int .i64 a0_1) := (zb hbox 1).trans rfl; have hc2 : w4.cell? ⟨g, 2, none⟩ = some (.int .i64 a0_2) := (zb hbox 2).trans rfl; clear hbox))
     go_ret
     exact ⟨by rw [HR2.o]; rfl, HB1.o⟩
    ·have HQ := ze.mk HF.o
     have HR2 := ze.mk (show yl 1 a0_1 a0_2 a0_3 a0_4 a0_5 a0_6 a0_7 a0_8 a0_9 = (!o && !s) by rw [HR.o, HF.o, c1, c2, c3, c4]; rfl)
     clear HR HF HQ
     cases o with
     | true =>
      go_enter Tryz.func71, Tryz.ntmps71
      go_wp2_with (first
     | ((with_reducible refine zD (N := 1) rfl ?_); refine zC ?hg (N := 1) ?hd (cs := #[.int .i64 1, .int .i64 a0_1, .int .i64 a0_2, .int .u64 a0_3, .int .i64 a0_4, .int .i64 a0_5, .int .i64 a0_6, .int .i64 a0_7, .int .i64 a0_8, .int .i64 a0_9]) (t := 37) ?hr ?_; (case hd => rfl); (case hg => rfl); (case hr => first | (go_simp; done) | (go_simp; rfl)); intro g hg w4 hbox hb; have HB1 := ze.mk hb; have GE := ze.mk (show w.heap.size ≤ g by rw [hg]; exact Nat.le_refl _); have BK := ze.mk hbox; clear hb hg HB; have hc0 : w4.cell? ⟨g, 0, none⟩ = some (.int .i64 1) := (zb hbox 0).trans rfl; have hc1 : w4.cell? ⟨g, 1, none⟩ = some (.int .i64 a0_1) := (zb hbox 1).trans rfl; have hc2 : w4.cell? ⟨g, 2, none⟩ = some (.int .i64 a0_2) := (zb hbox 2).trans rfl; have hc9 : w4.cell? ⟨g, 9, none⟩ = some (.int .i64 a0_9) := (zb hbox 9).trans rfl; clear hbox)
     | (go_at_call 90; refine (cards_odd.calls a0_9 _ _ hO'.o).mono ?_; rintro e w5 ⟨rfl, ⟨nd, rfl⟩⟩)
     | (go_at_call 91; refine (Zg g _ a0_4 a0_5 a0_6 a0_7 a0_8 _ ((zb (zg BK.o nd) 4).trans rfl) ((zb (zg BK.o nd) 5).trans rfl) ((zb (zg BK.o nd) 6).trans rfl) ((zb (zg BK.o nd) 7).trans rfl) ((zb (zg BK.o nd) 8).trans rfl)).mono ?_; rintro e w6 ⟨rfl, ⟨nd2, rfl⟩⟩; rw [hS'.o]))
      go_ret
      exact ⟨by rw [HR2.o]; cases s <;> rfl, by (with_reducible repeat (first | exact HB1.o | apply zf | apply zk))⟩
     | false =>
      go_enter Tryz.func71, Tryz.ntmps71
      go_wp2_with (first
     | ((with_reducible refine zD (N := 1) rfl ?_); refine zC ?hg (N := 1) ?hd (cs := #[.int .i64 1, .int .i64 a0_1, .int .i64 a0_2, .int .u64 a0_3, .int .i64 a0_4, .int .i64 a0_5, .int .i64 a0_6, .int .i64 a0_7, .int .i64 a0_8, .int .i64 a0_9]) (t := 37) ?hr ?_; (case hd => rfl); (case hg => rfl); (case hr => first | (go_simp; done) | (go_simp; rfl)); intro g hg w4 hbox hb; have HB1 := ze.mk hb; have GE := ze.mk (show w.heap.size ≤ g by rw [hg]; exact Nat.le_refl _); have BK := ze.mk hbox; clear hb hg HB; have hc0 : w4.cell? ⟨g, 0, none⟩ = some (.int .i64 1) := (zb hbox 0).trans rfl; have hc1 : w4.cell? ⟨g, 1, none⟩ = some (.int .i64 a0_1) := (zb hbox 1).trans rfl; have hc2 : w4.cell? ⟨g, 2, none⟩ = some (.int .i64 a0_2) := (zb hbox 2).trans rfl; have hc9 : w4.cell? ⟨g, 9, none⟩ = some (.int .i64 a0_9) := (zb hbox 9).trans rfl; clear hbox)
     | (go_at_call 90; refine (cards_odd.calls a0_9 _ _ hO'.o).mono ?_; rintro e w5 ⟨rfl, ⟨nd, rfl⟩⟩)
     | (go_at_call 91; refine (Zg g _ a0_4 a0_5 a0_6 a0_7 a0_8 _ ((zb (zg BK.o nd) 4).trans rfl) ((zb (zg BK.o nd) 5).trans rfl) ((zb (zg BK.o nd) 6).trans rfl) ((zb (zg BK.o nd) 7).trans rfl) ((zb (zg BK.o nd) 8).trans rfl)).mono ?_; rintro e w6 ⟨rfl, ⟨nd2, rfl⟩⟩; rw [hS'.o]))
      go_ret
      exact ⟨by rw [HR2.o]; cases s <;> rfl, by (with_reducible repeat (first | exact HB1.o | apply zf | apply zk))⟩
   ·rcases path with c1 | ⟨c1, c2⟩ | ⟨c1, c2, c3⟩ | ⟨c1, c2, c3, c4⟩ | ⟨c1, c2, c3, c4⟩
    ·have HQ := ze.mk HF.o
     have HR2 := ze.mk (show yl 2 a0_1 a0_2 a0_3 a0_4 a0_5 a0_6 a0_7 a0_8 a0_9 = false by rw [HR.o, HF.o, c1]; rfl)
     clear hS' hO' HR HF HQ
     go_enter Tryz.func71, Tryz.ntmps71
     go_wp2_with (first | ((with_reducible refine zD (N := 1) rfl ?_); refine zC ?hg (N := 1) ?hd (cs := #[.int .i64 2, .int .i64 a0_1, .int .i64 a0_2, .int .u64 a0_3, .int .i64 a0_4, .int .i64 a0_5, .int .i64 a0_6, .int .i64 a0_7, .int .i64 a0_8, .int .i64 a0_9]) (t := 37) ?hr ?_; (case hd => rfl); (case hg => rfl); (case hr => first | (go_simp; done) | (go_simp; rfl)); intro g hg w4 hbox hb; have HB1 := ze.mk hb; have GE := ze.mk (show w.heap.size ≤ g by rw [hg]; exact Nat.le_refl _); have BK := ze.mk hbox; clear hb hg HB; have hc0 : w4.cell? ⟨g, 0, none⟩ = some (.int .i64 2) := (zb hbox 0).trans rfl; have hc1 : w4.cell? ⟨g, 1, none⟩ = some (.int .i64 a0_1) := (zb hbox 1).trans rfl; have hc2 : w4.cell? ⟨g, 2, none⟩ = some (.int .i64 a0_2) := (zb hbox 2).trans rfl; clear hbox))
     go_ret
     exact ⟨by rw [HR2.o]; rfl, HB1.o⟩
    ·have HQ := ze.mk HF.o
     have HR2 := ze.mk (show yl 2 a0_1 a0_2 a0_3 a0_4 a0_5 a0_6 a0_7 a0_8 a0_9 = false by rw [HR.o, HF.o, c1, c2]; rfl)
     clear hS' hO' HR HF HQ
     go_enter Tryz.func71, Tryz.ntmps71
     go_wp2_with (first | ((with_reducible refine zD (N := 1) rfl ?_); refine zC ?hg (N := 1) ?hd (cs := #[.int .i64 2, .int .i64 a0_1, .int .i64 a0_2, .int .u64 a0_3, .int .i64 a0_4, .int .i64 a0_5, .int .i64 a0_6, .int .i64 a0_7, .int .i64 a0_8, .int .i64 a0_9]) (t := 37) ?hr ?_; (case hd => rfl); (case hg => rfl); (case hr => first | (go_simp; done) | (go_simp; rfl)); intro g hg w4 hbox hb; have HB1 := ze.mk hb; have GE := ze.mk (show w.heap.size ≤ g by rw [hg]; exact Nat.le_refl _); have BK := ze.mk hbox; clear hb hg HB; have hc0 : w4.cell? ⟨g, 0, none⟩ = some (.int .i64 2) := (zb hbox 0).trans rfl; have hc1 : w4.cell? ⟨g, 1, none⟩ = some (.int .i64 a0_1) := (zb hbox 1).trans rfl; have hc2 : w4.cell? ⟨g, 2, none⟩ = some (.int .i64 a0_2) := (zb hbox 2).trans rfl; clear hbox))
     go_ret
     exact ⟨by rw [HR2.o]; rfl, HB1.o⟩
    ·have HQ := ze.mk HF.o
     have HR2 := ze.mk (show yl 2 a0_1 a0_2 a0_3 a0_4 a0_5 a0_6 a0_7 a0_8 a0_9 = false by rw [HR.o, HF.o, c1, c2, c3]; rfl)
     clear hS' hO' HR HF HQ
     go_enter Tryz.func71, Tryz.ntmps71
     go_wp2_with (first | ((with_reducible refine zD (N := 1) rfl ?_); refine zC ?hg (N := 1) ?hd (cs := #[.int .i64 2, .int .i64 a0_1, .int .i64 a0_2, .int .u64 a0_3, .int .i64 a0_4, .int .i64 a0_5, .int .i64 a0_6, .int .i64 a0_7, .int .i64 a0_8, .int .i64 a0_9]) (t := 37) ?hr ?_; (case hd => rfl); (case hg => rfl); (case hr => first | (go_simp; done) | (go_simp; rfl)); intro g hg w4 hbox hb; have HB1 := ze.mk hb; have GE := ze.mk (show w.heap.size ≤ g by rw [hg]; exact Nat.le_refl _); have BK := ze.mk hbox; clear hb hg HB; have hc0 : w4.cell? ⟨g, 0, none⟩ = some (.int .i64 2) := (zb hbox 0).trans rfl; have hc1 : w4.cell? ⟨g, 1, none⟩ = some (.int .i64 a0_1) := (zb hbox 1).trans rfl; have hc2 : w4.cell? ⟨g, 2, none⟩ = some (.int .i64 a0_2) := (zb hbox 2).trans rfl; clear hbox))
     go_ret
     exact ⟨by rw [HR2.o]; rfl, HB1.o⟩
    ·have HQ := ze.mk HF.o
     have HR2 := ze.mk (show yl 2 a0_1 a0_2 a0_3 a0_4 a0_5 a0_6 a0_7 a0_8 a0_9 = false by rw [HR.o, HF.o, c1, c2, c3, c4]; rfl)
     clear hS' hO' HR HF HQ
     go_enter Tryz.func71, Tryz.ntmps71
     go_wp2_with (first | ((with_reducible refine zD (N := 1) rfl ?_); refine zC ?hg (N := 1) ?hd (cs := #[.int .i64 2, .int .i64 a0_1, .int .i64 a0_2, .int .u64 a0_3, .int .i64 a0_4, .int .i64 a0_5, .int .i64 a0_6, .int .i64 a0_7, .int .i64 a0_8, .int .i64 a0_9]) (t := 37) ?hr ?_; (case hd => rfl); (case hg => rfl); (case hr => first | (go_simp; done) | (go_simp; rfl)); intro g hg w4 hbox hb; have HB1 := ze.mk hb; have GE := ze.mk (show w.heap.size ≤ g by rw [hg]; exact Nat.le_refl _); have BK := ze.mk hbox; clear hb hg HB; have hc0 : w4.cell? ⟨g, 0, none⟩ = some (.int .i64 2) := (zb hbox 0).trans rfl; have hc1 : w4.cell? ⟨g, 1, none⟩ = some (.int .i64 a0_1) := (zb hbox 1).trans rfl; have hc2 : w4.cell? ⟨g, 2, none⟩ = some (.int .i64 a0_2) := (zb hbox 2).trans rfl; clear hbox))
     go_ret
     exact ⟨by rw [HR2.o]; rfl, HB1.o⟩
    ·have HQ := ze.mk HF.o
     have HR2 := ze.mk (show yl 2 a0_1 a0_2 a0_3 a0_4 a0_5 a0_6 a0_7 a0_8 a0_9 = (!o && !s) by rw [HR.o, HF.o, c1, c2, c3, c4]; rfl)
     clear HR HF HQ
     cases o with
     | true =>
      go_enter Tryz.func71, Tryz.ntmps71
      go_wp2_with (first
     | ((with_reducible refine zD (N := 1) rfl ?_); refine zC ?hg (N := 1) ?hd (cs := #[.int .i64 2, .int .i64 a0_1, .int .i64 a0_2, .int .u64 a0_3, .int .i64 a0_4, .int .i64 a0_5, .int .i64 a0_6, .int .i64 a0_7, .int .i64 a0_8, .int .i64 a0_9]) (t := 37) ?hr ?_; (case hd => rfl); (case hg => rfl); (case hr => first | (go_simp; done) | (go_simp; rfl)); intro g hg w4 hbox hb; have HB1 := ze.mk hb; have GE := ze.mk (show w.heap.size ≤ g by rw [hg]; exact Nat.le_refl _); have BK := ze.mk hbox; clear hb hg HB; have hc0 : w4.cell? ⟨g, 0, none⟩ = some (.int .i64 2) := (zb hbox 0).trans rfl; have hc1 : w4.cell? ⟨g, 1, none⟩ = some (.int .i64 a0_1) := (zb hbox 1).trans rfl; have hc2 : w4.cell? ⟨g, 2, none⟩ = some (.int .i64 a0_2) := (zb hbox 2).trans rfl; have hc9 : w4.cell? ⟨g, 9, none⟩ = some (.int .i64 a0_9) := (zb hbox 9).trans rfl; clear hbox)
     | (go_at_call 90; refine (cards_odd.calls a0_9 _ _ hO'.o).mono ?_; rintro e w5 ⟨rfl, ⟨nd, rfl⟩⟩)
     | (go_at_call 91; refine (Zg g _ a0_4 a0_5 a0_6 a0_7 a0_8 _ ((zb (zg BK.o nd) 4).trans rfl) ((zb (zg BK.o nd) 5).trans rfl) ((zb (zg BK.o nd) 6).trans rfl) ((zb (zg BK.o nd) 7).trans rfl) ((zb (zg BK.o nd) 8).trans rfl)).mono ?_; rintro e w6 ⟨rfl, ⟨nd2, rfl⟩⟩; rw [hS'.o]))
      go_ret
      exact ⟨by rw [HR2.o]; cases s <;> rfl, by (with_reducible repeat (first | exact HB1.o | apply zf | apply zk))⟩
     | false =>
      go_enter Tryz.func71, Tryz.ntmps71
      go_wp2_with (first
     | ((with_reducible refine zD (N := 1) rfl ?_); refine zC ?hg (N := 1) ?hd (cs := #[.int .i64 2, .int .i64 a0_1, .int .i64 a0_2, .int .u64 a0_3, .int .i64 a0_4, .int .i64 a0_5, .int .i64 a0_6, .int .i64 a0_7, .int .i64 a0_8, .int .i64 a0_9]) (t := 37) ?hr ?_; (case hd => rfl); (case hg => rfl); (case hr => first | (go_simp; done) | (go_simp; rfl)); intro g hg w4 hbox hb; have HB1 := ze.mk hb; have GE := ze.mk (show w.heap.size ≤ g by rw [hg]; exact Nat.le_refl _); have BK := ze.mk hbox; clear hb hg HB; have hc0 : w4.cell? ⟨g, 0, none⟩ = some (.int .i64 2) := (zb hbox 0).trans rfl; have hc1 : w4.cell? ⟨g, 1, none⟩ = some (.int .i64 a0_1) := (zb hbox 1).trans rfl; have hc2 : w4.cell? ⟨g, 2, none⟩ = some (.int .i64 a0_2) := (zb hbox 2).trans rfl; have hc9 : w4.cell? ⟨g, 9, none⟩ = some (.int .i64 a0_9) := (zb hbox 9).trans rfl; clear hbox)
     | (go_at_call 90; refine (cards_odd.calls a0_9 _ _ hO'.o).mono ?_; rintro e w5 ⟨rfl, ⟨nd, rfl⟩⟩)
     | (go_at_call 91; refine (Zg g _ a0_4 a0_5 a0_6 a0_7 a0_8 _ ((zb (zg BK.o nd) 4).trans rfl) ((zb (zg BK.o nd) 5).trans rfl) ((zb (zg BK.o nd) 6).trans rfl) ((zb (zg BK.o nd) 7).trans rfl) ((zb (zg BK.o nd) 8).trans rfl)).mono ?_; rintro e w6 ⟨rfl, ⟨nd2, rfl⟩⟩; rw [hS'.o]))
      go_ret
      exact ⟨by rw [HR2.o]; cases s <;> rfl, by (with_reducible repeat (first | exact HB1.o | apply zf | apply zk))⟩
   ·rcases path with c1 | ⟨c1, c2⟩ | ⟨c1, c2, c3⟩ | ⟨c1, c2, c3, c4⟩ | ⟨c1, c2, c3, c4⟩
    ·have HQ := ze.mk HF.o
     have HR2 := ze.mk (show yl 3 a0_1 a0_2 a0_3 a0_4 a0_5 a0_6 a0_7 a0_8 a0_9 = false by rw [HR.o, HF.o, c1]; rfl)
     clear hS' hO' HR HF HQ
     go_enter Tryz.func71, Tryz.ntmps71
     go_wp2_with (first | ((with_reducible refine zD (N := 1) rfl ?_); refine zC ?hg (N := 1) ?hd (cs := #[.int .i64 3, .int .i64 a0_1, .int .i64 a0_2, .int .u64 a0_3, .int .i64 a0_4, .int .i64 a0_5, .int .i64 a0_6, .int .i64 a0_7, .int .i64 a0_8, .int .i64 a0_9]) (t := 37) ?hr ?_; (case hd => rfl); (case hg => rfl); (case hr => first | (go_simp; done) | (go_simp; rfl)); intro g hg w4 hbox hb; have HB1 := ze.mk hb; have GE := ze.mk (show w.heap.size ≤ g by rw [hg]; exact Nat.le_refl _); have BK := ze.mk hbox; clear hb hg HB; have hc0 : w4.cell? ⟨g, 0, none⟩ = some (.int .i64 3) := (zb hbox 0).trans rfl; have hc1 : w4.cell? ⟨g, 1, none⟩ = some (.int .i64 a0_1) := (zb hbox 1).trans rfl; have hc2 : w4.cell? ⟨g, 2, none⟩ = some (.int .i64 a0_2) := (zb hbox 2).trans rfl; clear hbox))
     go_ret
     exact ⟨by rw [HR2.o]; rfl, HB1.o⟩
    ·have HQ := ze.mk HF.o
     have HR2 := ze.mk (show yl 3 a0_1 a0_2 a0_3 a0_4 a0_5 a0_6 a0_7 a0_8 a0_9 = false by rw [HR.o, HF.o, c1, c2]; rfl)
     clear hS' hO' HR HF HQ
     go_enter Tryz.func71, Tryz.ntmps71
     go_wp2_with (first | ((with_reducible refine zD (N := 1) rfl ?_); refine zC ?hg (N := 1) ?hd (cs := #[.int .i64 3, .int .i64 a0_1, .int .i64 a0_2, .int .u64 a0_3, .int .i64 a0_4, .int .i64 a0_5, .int .i64 a0_6, .int .i64 a0_7, .int .i64 a0_8, .int .i64 a0_9]) (t := 37) ?hr ?_; (case hd => rfl); (case hg => rfl); (case hr => first | (go_simp; done) | (go_simp; rfl)); intro g hg w4 hbox hb; have HB1 := ze.mk hb; have GE := ze.mk (show w.heap.size ≤ g by rw [hg]; exact Nat.le_refl _); have BK := ze.mk hbox; clear hb hg HB; have hc0 : w4.cell? ⟨g, 0, none⟩ = some (.int .i64 3) := (zb hbox 0).trans rfl; have hc1 : w4.cell? ⟨g, 1, none⟩ = some (.int .i64 a0_1) := (zb hbox 1).trans rfl; have hc2 : w4.cell? ⟨g, 2, none⟩ = some (.int .i64 a0_2) := (zb hbox 2).trans rfl; clear hbox))
     go_ret
     exact ⟨by rw [HR2.o]; rfl, HB1.o⟩
    ·have HQ := ze.mk HF.o
     have HR2 := ze.mk (show yl 3 a0_1 a0_2 a0_3 a0_4 a0_5 a0_6 a0_7 a0_8 a0_9 = false by rw [HR.o, HF.o, c1, c2, c3]; rfl)
     clear hS' hO' HR HF HQ
     go_enter Tryz.func71, Tryz.ntmps71
     go_wp2_with (first | ((with_reducible refine zD (N := 1) rfl ?_); refine zC ?hg (N := 1) ?hd (cs := #[.int .i64 3, .int .i64 a0_1, .int .i64 a0_2, .int .u64 a0_3, .int .i64 a0_4, .int .i64 a0_5, .int .i64 a0_6, .int .i64 a0_7, .int .i64 a0_8, .int .i64 a0_9]) (t := 37) ?hr ?_; (case hd => rfl); (case hg => rfl); (case hr => first | (go_simp; done) | (go_simp; rfl)); intro g hg w4 hbox hb; have HB1 := ze.mk hb; have GE := ze.mk (show w.heap.size ≤ g by rw [hg]; exact Nat.le_refl _); have BK := ze.mk hbox; clear hb hg HB; have hc0 : w4.cell? ⟨g, 0, none⟩ = some (.int .i64 3) := (zb hbox 0).trans rfl; have hc1 : w4.cell? ⟨g, 1, none⟩ = some (.int .i64 a0_1) := (zb hbox 1).trans rfl; have hc2 : w4.cell? ⟨g, 2, none⟩ = some (.int .i64 a0_2) := (zb hbox 2).trans rfl; clear hbox))
     go_ret
     exact ⟨by rw [HR2.o]; rfl, HB1.o⟩
    ·have HQ := ze.mk HF.o
     have HR2 := ze.mk (show yl 3 a0_1 a0_2 a0_3 a0_4 a0_5 a0_6 a0_7 a0_8 a0_9 = false by rw [HR.o, HF.o, c1, c2, c3, c4]; rfl)
     clear hS' hO' HR HF HQ
     go_enter Tryz.func71, Tryz.ntmps71
     go_wp2_with (first | ((with_reducible refine zD (N := 1) rfl ?_); refine zC ?hg (N := 1) ?hd (cs := #[.int .i64 3, .int .i64 a0_1, .int .i64 a0_2, .int .u64 a0_3, .int .i64 a0_4, .int .i64 a0_5, .int .i64 a0_6, .int .i64 a0_7, .int .i64 a0_8, .int .i64 a0_9]) (t := 37) ?hr ?_; (case hd => rfl); (case hg => rfl); (case hr => first | (go_simp; done) | (go_simp; rfl)); intro g hg w4 hbox hb; have HB1 := ze.mk hb; have GE := ze.mk (show w.heap.size ≤ g by rw [hg]; exact Nat.le_refl _); have BK := ze.mk hbox; clear hb hg HB; have hc0 : w4.cell? ⟨g, 0, none⟩ = some (.int .i64 3) := (zb hbox 0).trans rfl; have hc1 : w4.cell? ⟨g, 1, none⟩ = some (.int .i64 a0_1) := (zb hbox 1).trans rfl; have hc2 : w4.cell? ⟨g, 2, none⟩ = some (.int .i64 a0_2) := (zb hbox 2).trans rfl; clear hbox))
     go_ret
     exact ⟨by rw [HR2.o]; rfl, HB1.o⟩
    ·have HQ := ze.mk HF.o
     have HR2 := ze.mk (show yl 3 a0_1 a0_2 a0_3 a0_4 a0_5 a0_6 a0_7 a0_8 a0_9 = (!o && !s) by rw [HR.o, HF.o, c1, c2, c3, c4]; rfl)
     clear HR HF HQ
     cases o with
     | true =>
      go_enter Tryz.func71, Tryz.ntmps71
      go_wp2_with (first
     | ((with_reducible refine zD (N := 1) rfl ?_); refine zC ?hg (N := 1) ?hd (cs := #[.int .i64 3, .int .i64 a0_1, .int .i64 a0_2, .int .u64 a0_3, .int .i64 a0_4, .int .i64 a0_5, .int .i64 a0_6, .int .i64 a0_7, .int .i64 a0_8, .int .i64 a0_9]) (t := 37) ?hr ?_; (case hd => rfl); (case hg => rfl); (case hr => first | (go_simp; done) | (go_simp; rfl)); intro g hg w4 hbox hb; have HB1 := ze.mk hb; have GE := ze.mk (show w.heap.size ≤ g by rw [hg]; exact Nat.le_refl _); have BK := ze.mk hbox; clear hb hg HB; have hc0 : w4.cell? ⟨g, 0, none⟩ = some (.int .i64 3) := (zb hbox 0).trans rfl; have hc1 : w4.cell? ⟨g, 1, none⟩ = some (.int .i64 a0_1) := (zb hbox 1).trans rfl; have hc2 : w4.cell? ⟨g, 2, none⟩ = some (.int .i64 a0_2) := (zb hbox 2).trans rfl; have hc9 : w4.cell? ⟨g, 9, none⟩ = some (.int .i64 a0_9) := (zb hbox 9).trans rfl; clear hbox)
     | (go_at_call 90; refine (cards_odd.calls a0_9 _ _ hO'.o).mono ?_; rintro e w5 ⟨rfl, ⟨nd, rfl⟩⟩)
     | (go_at_call 91; refine (Zg g _ a0_4 a0_5 a0_6 a0_7 a0_8 _ ((zb (zg BK.o nd) 4).trans rfl) ((zb (zg BK.o nd) 5).trans rfl) ((zb (zg BK.o nd) 6).trans rfl) ((zb (zg BK.o nd) 7).trans rfl) ((zb (zg BK.o nd) 8).trans rfl)).mono ?_; rintro e w6 ⟨rfl, ⟨nd2, rfl⟩⟩; rw [hS'.o]))
      go_ret
      exact ⟨by rw [HR2.o]; cases s <;> rfl, by (with_reducible repeat (first | exact HB1.o | apply zf | apply zk))⟩
     | false =>
      go_enter Tryz.func71, Tryz.ntmps71
      go_wp2_with (first
     | ((with_reducible refine zD (N := 1) rfl ?_); refine zC ?hg (N := 1) ?hd (cs := #[.int .i64 3, .int .i64 a0_1, .int .i64 a0_2, .int .u64 a0_3, .int .i64 a0_4, .int .i64 a0_5, .int .i64 a0_6, .int .i64 a0_7, .int .i64 a0_8, .int .i64 a0_9]) (t := 37) ?hr ?_; (case hd => rfl); (case hg => rfl); (case hr => first | (go_simp; done) | (go_simp; rfl)); intro g hg w4 hbox hb; have HB1 := ze.mk hb; have GE := ze.mk (show w.heap.size ≤ g by rw [hg]; exact Nat.le_refl _); have BK := ze.mk hbox; clear hb hg HB; have hc0 : w4.cell? ⟨g, 0, none⟩ = some (.int .i64 3) := (zb hbox 0).trans rfl; have hc1 : w4.cell? ⟨g, 1, none⟩ = some (.int .i64 a0_1) := (zb hbox 1).trans rfl; have hc2 : w4.cell? ⟨g, 2, none⟩ = some (.int .i64 a0_2) := (zb hbox 2).trans rfl; have hc9 : w4.cell? ⟨g, 9, none⟩ = some (.int .i64 a0_9) := (zb hbox 9).trans rfl; clear hbox)
     | (go_at_call 90; refine (cards_odd.calls a0_9 _ _ hO'.o).mono ?_; rintro e w5 ⟨rfl, ⟨nd, rfl⟩⟩)
     | (go_at_call 91; refine (Zg g _ a0_4 a0_5 a0_6 a0_7 a0_8 _ ((zb (zg BK.o nd) 4).trans rfl) ((zb (zg BK.o nd) 5).trans rfl) ((zb (zg BK.o nd) 6).trans rfl) ((zb (zg BK.o nd) 7).trans rfl) ((zb (zg BK.o nd) 8).trans rfl)).mono ?_; rintro e w6 ⟨rfl, ⟨nd2, rfl⟩⟩; rw [hS'.o]))
      go_ret
      exact ⟨by rw [HR2.o]; cases s <;> rfl, by (with_reducible repeat (first | exact HB1.o | apply zf | apply zk))⟩
  ·have HR := ze.mk (show yl a0_0 a0_1 a0_2 a0_3 a0_4 a0_5 a0_6 a0_7 a0_8 a0_9 = false by unfold yl; rw [if_neg k0, if_neg k1])
   have b0 : (a0_0 == 0) = false := beq_eq_false_iff_ne.mpr k0
   have b1 : (a0_0 == 1) = false := beq_eq_false_iff_ne.mpr (fun e => k1 (.inl e))
   have b2 : (a0_0 == 2) = false := beq_eq_false_iff_ne.mpr (fun e => k1 (.inr (.inl e)))
   have b3 : (a0_0 == 3) = false := beq_eq_false_iff_ne.mpr (fun e => k1 (.inr (.inr e)))
   clear k0 k1
   go_enter Tryz.func71, Tryz.ntmps71
   go_wp2_with (first
    | ((with_reducible refine zD (N := 1) rfl ?_); refine zC ?hg (N := 1) ?hd (cs := #[.int .i64 a0_0, .int .i64 a0_1, .int .i64 a0_2, .int .u64 a0_3, .int .i64 a0_4, .int .i64 a0_5, .int .i64 a0_6, .int .i64 a0_7, .int .i64 a0_8, .int .i64 a0_9]) (t := 37) ?hr ?_; (case hd => rfl); (case hg => rfl); (case hr => first | (go_simp; done) | (go_simp; rfl)); intro g hg w4 hbox hb; have HB1 := ze.mk hb; clear hb hg HB; have hc0 : w4.cell? ⟨g, 0, none⟩ = some (.int .i64 a0_0) := (zb hbox 0).trans rfl; clear hbox))
   go_ret
   exact ⟨by rw [HR.o]; rfl, HB1.o⟩
end Go.Proofs.YtkbhilhefnahpaaGreat.Print
