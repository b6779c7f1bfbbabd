/- Sets of files: SetsMerge. -/
import Derived.Test.YtoakfmdfajpejaaLwA
import Derived.Test.YtoakfmdfajpejaaSetF
namespace Go.Proofs.Ytoakfmdfajpejaa.Sets
open Go Go.Maps Go.RowKit Go.Proofs.Ytoakfmdfajpejaa.ML Go.Proofs.Ytoakfmdfajpejaa.Reg Go.Proofs.Ytoakfmdfajpejaa.Print Go.Proofs.YtoakfmdfajpejaaW.PrintWords Go.Proofs.YtoakfmdfajpejaaW.PrintLast Go.Proofs.YtoakfmdfajpejaaW.PrintMore
set_option linter.unusedVariables false
set_option linter.unusedSimpArgs false
set_option maxHeartbeats 800000 in
theorem SetsMerge_calls (w : World) (A0 : Option Addr) (c0 : Nat) (l0 : List Int) (A1 : Option Addr) (c1 : Nat) (l1 : List Int) (B0 : Option Addr) (d0 : Nat) (t : List Int) (hr0 : Kd.C (Kd.int .i64) w A0 l0.length l0) (hc0 : l0.length ≤ c0) (hr1 : Kd.C (Kd.int .i64) w A1 l1.length l1) (hc1 : l1.length ≤ c1) (hi0 : ∀ k ∈ l0, okn k) (hi1 : ∀ k ∈ l1, okn k) (ht : Tab w B0 d0 t) :
    Calls Try.prog 4 #[.slice A0 l0.length c0, .slice A1 l1.length c1, .slice B0 t.length d0] w fun e w' => e = .returned (.bool true) ∧ Below w.heap.size w w' := by
  obtain ⟨a, ha⟩ : ∃ a, l0.take 60 = a := ⟨_, rfl⟩
  obtain ⟨b, hb⟩ : ∃ b, l1.take 60 = b := ⟨_, rfl⟩
  have hmin0 : (if 60 < (l0.length : Int) then (60 : Int) else (l0.length : Int)) = (a.length : Int) := by rw [← ha, List.length_take]; split <;> omega
  have hmin1 : (if 60 < (l1.length : Int) then (60 : Int) else (l1.length : Int)) = (b.length : Int) := by rw [← hb, List.length_take]; split <;> omega
  have ha0 : a.length ≤ c0 := by rw [← ha]; exact Nat.le_trans (List.length_take_le' ..) hc0
  have hb0 : b.length ≤ c1 := by rw [← hb]; exact Nat.le_trans (List.length_take_le' ..) hc1
  have hn0 : a.length ≤ 60 := by rw [← ha]; exact List.length_take_le ..
  have hn1 : b.length ≤ 60 := by rw [← hb]; exact List.length_take_le ..
  have hra := C_cut60 hr0
  rw [ha] at hra
  have hrb := C_cut60 hr1
  rw [hb] at hrb
  have RA0 := Aside0.mk hra
  have RB0 := Aside0.mk hrb
  have IA := Aside0.mk (show ∀ k ∈ a, okn k from fun k hk => hi0 k (List.mem_of_mem_take (ha ▸ hk)))
  have IB := Aside0.mk (show ∀ k ∈ b, okn k from fun k hk => hi1 k (List.mem_of_mem_take (hb ▸ hk)))
  have T0 := Aside0.mk ht
  have CA := Aside0.mk ha0
  have CB := Aside0.mk hb0
  clear hra hrb hr0 hr1 hc0 hc1 hi0 hi1 ht ha hb
  obtain ⟨P1, P2, X, hx1, hy1, hl1, hl2, hx2, hy2, hz, hgx, hso, hfr, hlx⟩ := merge_pack (atF t) a b hn0 hn1
  have Ex1 := Aside0.mk hx1
  have Ex2 := Aside0.mk hx2
  have Ey1 := Aside0.mk hy1
  have Ey2 := Aside0.mk hy2
  have EZ := Aside0.mk hz
  have GX := Aside0.mk hgx
  have SO := Aside0.mk hso
  have FR := Aside0.mk hfr
  have LX := Aside0.mk hlx
  have L1 := Aside0.mk hl1
  have L2 := Aside0.mk hl2
  clear hx1 hx2 hy1 hy2 hz hgx hso hfr hlx hl1 hl2
  go_enter Try.func4, Try.ntmps4
  go_wp2_with (first
    | (go_at_call 7; refine (lives_calls _).mono ?_; rintro e w1 ⟨rfl, hb⟩; have X1 := Aside0.mk hb; clear hb))
  go_quiet (fail)
  obtain ⟨w2, hw2⟩ : ∃ w2, w1.drewN nq = w2 := ⟨_, rfl⟩
  have hX2 := pw_below_drewN X1.out nq
  rw [hw2] at hX2 ⊢
  go_wp2
  clear ha0 hb0 hmin0 hmin1 hw2
  have GC0 := Aside0.mk (heap_alloc_new w2 (.cells #[.slice B0 t.length d0] 30 (0, 0)))
  have hX3 := hX2.alloc hX2.size (.cells #[.slice B0 t.length d0] 30 (0, 0))
  generalize w2.heap.size = g at GC0 ⊢
  generalize w2.alloc (.cells #[.slice B0 t.length d0] 30 (0, 0)) = w3 at GC0 hX3 ⊢
  have X3 := Aside0.mk hX3
  have GC := GC0
  have RA := Aside0.mk (Kd.C_below RA0.out X3.out)
  have RB := Aside0.mk (Kd.C_below RB0.out X3.out)
  have TT := Aside0.mk (T0.out.below X3.out)
  clear GC0 hX2 hX3 X1 T0 RA0 RB0
  have HZ := Aside0.mk (Below.refl w3.heap.size w3)
  refine wp_region_text (fun W => Below w3.heap.size w3 W) (fun i => [3, 7].contains i) (by kernel_rfl) (by kernel_rfl) (Below.refl _ _).drew ?_
  have HI := Aside0.mk ((Below.refl w3.heap.size w3).drew)
  generalize w3.drew = wd at HI ⊢
  repeat (first
    | ((apply S_val rfl; (first | exact wanted_none rfl | exact wanted_yes rfl rfl (by kernel_rfl)); (intro W hW R hR; go_simp; exact hR)); go_frame)
    | ((apply S_val rfl; (first | exact wanted_none rfl | exact wanted_yes rfl rfl (by kernel_rfl)); (intro W hW R hR; have x0 := cell_of (blk_below GC.out ((HZ.out.trans (hW.mono HZ.out.size)))) (o := 0) rfl; go_simp; exact hR)); go_frame)
    | (have h_ := Mx1; clear h_; (refine S_call rfl ?_ ?_ (Merge_as (c := c1) (Or.inr ⟨_, rfl, Mx1.out⟩) (by exact L1.out) (Kd.C_below RB.out (HZ.out.trans (HI.out.mono HZ.out.size))) (by omega) IB.out (TT.out.below (HZ.out.trans (HI.out.mono HZ.out.size))) Ex2.out) ?_; (first | exact wanted_none rfl | exact wanted_yes rfl rfl (by kernel_rfl)); (focus (first | (go_simp; done) | (go_simp; rfl)))); rintro e wn ⟨sx2, rfl, hs0, hm, hb⟩; have Mx2 := Aside0.mk hm; have n_ := Aside0.mk (HI.out.trans (hb.mono HI.out.size)); clear HI hb hm hs0; have HI := n_; clear n_; refine ⟨_, rfl, HI.out, ?_⟩; go_frame)
    | ((refine S_call rfl ?_ ?_ (Merge_as (c := c0) (Or.inl ⟨rfl, rfl⟩) (by decide) (Kd.C_below RA.out (HZ.out.trans (HI.out.mono HZ.out.size))) (by omega) IA.out (TT.out.below (HZ.out.trans (HI.out.mono HZ.out.size))) Ex1.out) ?_; (first | exact wanted_none rfl | exact wanted_yes rfl rfl (by kernel_rfl)); (focus (first | (go_simp; done) | (go_simp; rfl)))); rintro e wn ⟨sx1, rfl, hs0, hm, hb⟩; have Mx1 := Aside0.mk hm; have n_ := Aside0.mk (HI.out.trans (hb.mono HI.out.size)); clear HI hb hm hs0; have HI := n_; clear n_; refine ⟨_, rfl, HI.out, ?_⟩; go_frame))
  apply S_nil
  have H5 := HI
  clear HI HZ Mx1
  go_wp2
  refine wp_region_text (fun W => Below wn.heap.size wn W) (fun i => [3, 7].contains i) (by kernel_rfl) (by kernel_rfl) (Below.refl _ _).drew ?_
  have HI := Aside0.mk ((Below.refl wn.heap.size wn).drew)
  generalize wn.drew = wd at HI ⊢
  repeat (first
    | ((apply S_val rfl; (first | exact wanted_none rfl | exact wanted_yes rfl rfl (by kernel_rfl)); (intro W hW R hR; go_simp; exact hR)); go_frame)
    | ((apply S_val rfl; (first | exact wanted_none rfl | exact wanted_yes rfl rfl (by kernel_rfl)); (intro W hW R hR; have x0 := cell_of (blk_below GC.out ((H5.out.trans (hW.mono H5.out.size)))) (o := 0) rfl; go_simp; exact hR)); go_frame)
    | (have h_ := My1; clear h_; (refine S_call rfl ?_ ?_ (Merge_as (c := c0) (Or.inr ⟨_, rfl, My1.out⟩) (by exact L2.out) (Kd.C_below RA.out (H5.out.trans (HI.out.mono H5.out.size))) (by omega) IA.out (TT.out.below (H5.out.trans (HI.out.mono H5.out.size))) Ey2.out) ?_; (first | exact wanted_none rfl | exact wanted_yes rfl rfl (by kernel_rfl)); (focus (first | (go_simp; done) | (go_simp; rfl)))); rintro e wn ⟨sy2, rfl, hs0, hm, hb⟩; have My2 := Aside0.mk hm; have n_ := Aside0.mk (HI.out.trans (hb.mono HI.out.size)); clear HI hb hm hs0; have HI := n_; clear n_; refine ⟨_, rfl, HI.out, ?_⟩; go_frame)
    | ((refine S_call rfl ?_ ?_ (Merge_as (c := c1) (Or.inl ⟨rfl, rfl⟩) (by decide) (Kd.C_below RB.out (H5.out.trans (HI.out.mono H5.out.size))) (by omega) IB.out (TT.out.below (H5.out.trans (HI.out.mono H5.out.size))) Ey1.out) ?_; (first | exact wanted_none rfl | exact wanted_yes rfl rfl (by kernel_rfl)); (focus (first | (go_simp; done) | (go_simp; rfl)))); rintro e wn ⟨sy1, rfl, hs0, hm, hb⟩; have My1 := Aside0.mk hm; have n_ := Aside0.mk (HI.out.trans (hb.mono HI.out.size)); clear HI hb hm hs0; have HI := n_; clear n_; refine ⟨_, rfl, HI.out, ?_⟩; go_frame))
  apply S_nil
  have H6 := Aside0.mk (H5.out.trans (HI.out.mono H5.out.size))
  have N2 := Aside0.mk (IsMbelow Mx2.out Mx2.out.lt HI.out)
  clear HI H5 My1 Mx2
  have x0 := cell_of (blk_below GC.out H6.out) (o := 0) rfl
  have X6 := Aside0.mk (X3.out.trans (H6.out.mono X3.out.size))
  go_wp2_with (first
    | (go_at_call 8; refine (Merge_as (Or.inr ⟨_, rfl, N2.out⟩) LX.out (Kd.C_below RA.out H6.out) (by omega) IA.out (TT.out.below H6.out) EZ.out).mono ?_; rintro e w7 ⟨s7, rfl, hs0, hm, hb⟩; have MZ := Aside0.mk hm; have MX := Aside0.mk (IsMbelow N2.out N2.out.lt hb); have MY := Aside0.mk (IsMbelow My2.out My2.out.lt hb); have H7 := Aside0.mk (H6.out.trans (hb.mono H6.out.size)); clear x0 hb hm hs0; have x0 := cell_of (blk_below GC.out H7.out) (o := 0) rfl)
    | (at_len; (try (refine gate_guard (by rfl) ?_; dsimp only)); (first | refine wp_len (x := ekU) mtSeen rfl _ rfl rfl MX.out ?_ | refine wp_len (x := ekU) mtSeen rfl _ rfl rfl MY.out ?_ | refine wp_len (x := ekU) mtSeen rfl _ rfl rfl MZ.out ?_))
    | (go_at_call 11; refine (Fresh_as MX.out (TT.out.below H7.out) FR.out).mono ?_; rintro e w8 ⟨rfl, hb⟩; have H8 := Aside0.mk (H7.out.trans (hb.mono H7.out.size)); have NX := Aside0.mk (IsMbelow MX.out MX.out.lt hb); have NY := Aside0.mk (IsMbelow MY.out MY.out.lt hb); have NZ := Aside0.mk (IsMbelow MZ.out MZ.out.lt hb); clear hb)
    | (at_range; refine wpList_range_own _ rfl _ 26 rfl 3 31 mtSeen.keyed mtSeen.ht _ _ _ _ rfl NX.out ?_; intro w9 hrg0 hg0 hs0))
  obtain ⟨r, hrr⟩ : ∃ r, w8.heap.size = r := ⟨_, rfl⟩
  rw [hrr] at hrg0 ⊢
  go_frame
  have RG := Aside0.mk hrg0
  have RR := Aside0.mk hrr
  have B9 := Aside0.mk ((Below.refl w8.heap.size w8).grown hg0 (Nat.le_refl _) (fun x hx => by cases hx))
  clear hrg0 hg0 hs0 hrr x0
  have RA8 := Aside0.mk (Kd.C_below RA.out H8.out)
  have RB8 := Aside0.mk (Kd.C_below RB.out H8.out)
  have X8 := Aside0.mk (X3.out.trans (H8.out.mono X3.out.size))
  clear MX MY MZ N2 My2 H6 RA RB TT GC Ex1 Ex2 Ey1 Ey2 EZ FR L1 L2
  go_loopw [] (fun wr => ∃ (left : Lit → Bool) (cnt : Nat), RangeU wr sx2 r X.length X left cnt ∧ Below w8.heap.size w8 wr) (fun wr => wr.rangeLeft sx2 r)
  case atStart => exact ⟨_, _, RG.out, B9.out⟩
  case round =>
    obtain ⟨left, cnt, hrg, hb⟩ := hrel
    have HG := Aside0.mk hrg
    have HB := Aside0.mk hb
    clear hrg hb
    go_wp2_with (first
      | (at_next; refine wpList_next_ranges_ii _ rfl _ rfl 3 31 .i64 .u64 mtSeen.keyed mtSeen.hk Try.underlying31 _ r _ _ _ _ rfl HG.out ?_ ?_))
    · intro hc0 hl0
      clear hc0 hl0
      go_wp2
      go_ret
      exact ⟨rfl, X8.out.trans (HB.out.mono X8.out.size)⟩
    · intro x c w10 cnt2 hwx hwc hlx hat hrg2 hlt hg2 hs2 hen
      have hget := range_getU hat
      have hb2 : Below w8.heap.size w8 w10 := HB.out.grown hg2 HB.out.size (fun x hx => by cases hx; rw [RR.out]; exact Nat.le_refl _)
      have B2 := Aside0.mk hb2
      have R2 := Aside0.mk hrg2
      have LT := Aside0.mk hlt
      have GE := Aside0.mk hget
      have WX := Aside0.mk hwx
      have OR := Aside0.mk (GX.out x c hget)
      clear hget hb2 hlt hlx hat hrg2 hg2 hs2 hwx hwc
      cases hxa : decide (x ∈ a) with
      | true =>
        have XA := Aside0.mk hxa
        clear hxa
        go_wp2_with (first
          | (at_lookup; (first | refine wp_look_ok (x := ekU) mtSeen rfl _ _ rfl rfl (IsMbelow NY.out NY.out.lt B2.out) x rfl WX.out ?_ | refine wp_look_ok (x := ekU) mtSeen rfl _ _ rfl rfl (IsMbelow NZ.out NZ.out.lt B2.out) x rfl WX.out ?_); simp only [GE.out, Option.isSome_some, Option.getD_some, ekU_val])
          | (go_at_call 12; refine (RHas_as (Kd.C_below RA8.out B2.out) CA.out (by omega) x XA.out).mono ?_; rintro e w11 ⟨rfl, hb⟩; have R3 := Aside0.mk (World.ranges.kept R2.out (grown_of_below hb) (by simp) (by simp)); have B3 := Aside0.mk (B2.out.trans (hb.mono B2.out.size)); clear hb))
        go_roundw
        case rel => exact ⟨_, cnt2, R3.out, B3.out⟩
        case measure => rw [R3.out.left_eq, HG.out.left_eq]; exact LT.out
      | false =>
        have XA := Aside0.mk hxa
        have XB := Aside0.mk (show decide (x ∈ b) = true from decide_eq_true (OR.out.resolve_left (of_decide_eq_false hxa)))
        clear hxa
        go_wp2_with (first
          | (at_lookup; (first | refine wp_look_ok (x := ekU) mtSeen rfl _ _ rfl rfl (IsMbelow NY.out NY.out.lt B2.out) x rfl WX.out ?_ | refine wp_look_ok (x := ekU) mtSeen rfl _ _ rfl rfl (IsMbelow NZ.out NZ.out.lt B2.out) x rfl WX.out ?_); simp only [GE.out, Option.isSome_some, Option.getD_some, ekU_val])
          | (go_at_call 12; have h_ := B3; clear h_; refine (RHas_as (Kd.C_below RB8.out B3.out) CB.out (by omega) x XB.out).mono ?_; rintro e w12 ⟨rfl, hb⟩; have R4 := Aside0.mk (World.ranges.kept R3.out (grown_of_below hb) (by simp) (by simp)); have B4 := Aside0.mk (B3.out.trans (hb.mono B3.out.size)); clear hb)
          | (go_at_call 12; refine (RHas_as (Kd.C_below RA8.out B2.out) CA.out (by omega) x XA.out).mono ?_; rintro e w11 ⟨rfl, hb⟩; have R3 := Aside0.mk (World.ranges.kept R2.out (grown_of_below hb) (by simp) (by simp)); have B3 := Aside0.mk (B2.out.trans (hb.mono B2.out.size)); clear hb))
        go_roundw
        case rel => exact ⟨_, cnt2, R4.out, B4.out⟩
        case measure => rw [R4.out.left_eq, HG.out.left_eq]; exact LT.out
end Go.Proofs.Ytoakfmdfajpejaa.Sets
