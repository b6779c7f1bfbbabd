/- Sets of files: SetsFresh. -/
import Derived.Test.YtoakfmdfajpejaaLwA
import Derived.Test.YtoakfmdfajpejaaSetF
namespace Go.Proofs.Ytoakfmdfajpejaa.Sets
open Go Go.Maps Go.RowKit Go.Proofs.Ytoakfmdfajpejaa.ML Go.Proofs.Ytoakfmdfajpejaa.Reg Go.Proofs.Ytoakfmdfajpejaa.Print Go.Proofs.YtoakfmdfajpejaaW.PrintWords Go.Proofs.YtoakfmdfajpejaaW.PrintLast Go.Proofs.YtoakfmdfajpejaaW.PrintMore
set_option linter.unusedVariables false
set_option linter.unusedSimpArgs false
/-- What is seen is as it was then. -/
def freshL (t u : List Int) (l : List Int) : Bool := l.all fun k => decide (atF t k = atF u k)
theorem freshL_snoc (t u l : List Int) (k : Int) : freshL t u (l ++ [k]) = (freshL t u l && decide (atF t k = atF u k)) := by
  unfold freshL; simp
set_option maxHeartbeats 800000 in
theorem SetsFresh_calls (w : World) (A0 : Option Addr) (c0 : Nat) (l0 : List Int) (B0 : Option Addr) (d0 : Nat) (t : List Int) (B1 : Option Addr) (d1 : Nat) (u : List Int) (hr0 : Kd.C (Kd.int .i64) w A0 l0.length l0) (hc0 : l0.length ≤ c0) (hi0 : ∀ k ∈ l0, okn k) (ht : Tab w B0 d0 t) (hu : Tab w B1 d1 u) :
    Calls Try.prog 3 #[.slice A0 l0.length c0, .slice B0 t.length d0, .slice B1 u.length d1] w fun e w' => e = .returned (.bool true) ∧ Below w.heap.size w w' := by
  obtain ⟨a, ha⟩ : ∃ a, l0.take 60 = a := ⟨_, rfl⟩
  have hmin : (if 60 < (l0.length : Int) then (60 : Int) else (l0.length : Int)) = (a.length : Int) := by rw [← ha, List.length_take]; split <;> omega
  have hr := C_cut60 hr0
  rw [ha] at hr
  have hi : ∀ k ∈ a, okn k := fun k hk => hi0 k (List.mem_of_mem_take (ha ▸ hk))
  have hn : a.length ≤ 60 := by rw [← ha]; exact List.length_take_le ..
  have hc : a.length ≤ c0 := by rw [← ha]; exact Nat.le_trans (List.length_take_le' ..) hc0
  have R0 := Aside0.mk hr
  have I0 := Aside0.mk hi
  have C0 := Aside0.mk hc
  have T0 := Aside0.mk ht
  have U0 := Aside0.mk hu
  clear ha hr hi hr0 hi0 hc0 ht hu
  have HM0 := Aside0.mk (show Sorted (mergeL (atF t) [] a) from F_sorted _ _)
  have HL0 := Aside0.mk (show (mergeL (atF t) [] a).length ≤ 60 by have := mergeL_len (atF t) a []; simp at this; omega)
  obtain ⟨S, hS⟩ : ∃ S, mergeL (atF t) [] a = S := ⟨_, rfl⟩
  have GS := Aside0.mk (show ∀ k ∈ a, get S k = some (atF t k) from fun k hk => by rw [← hS]; exact F_get hk)
  have HS := Aside0.mk hS
  clear hS
  go_enter Try.func3, Try.ntmps3
  go_wp2_with (first
    | (go_at_call 7; refine (lives_calls _).mono ?_; rintro e w1 ⟨rfl, hb⟩; have X1 := Aside0.mk hb; clear hb)
    | (go_at_call 8; refine (Merge_as (Or.inl ⟨rfl, rfl⟩) (by decide) (Kd.C_below R0.out X1.out) (by omega) I0.out (T0.out.below X1.out) HS.out).mono ?_; rintro e w2 ⟨s, rfl, hs0, hm, hb⟩; have M2 := Aside0.mk hm; have X2 := Aside0.mk (X1.out.trans (hb.mono X1.out.size)); have SB := Aside0.mk hm.lt; clear hm hb hs0))
  clear hmin hc
  have R2 := Aside0.mk (Kd.C_below R0.out X2.out)
  have T2 := Aside0.mk (T0.out.below X2.out)
  have U2 := Aside0.mk (U0.out.below X2.out)
  clear R0 T0 U0 X1
  go_loopw [8, 9] (fun x8 x9 wr => ∃ j : Nat, j ≤ a.length ∧ x9 = .int .i64 (j : Int) ∧ x8 = .bool (freshL t u (a.take j)) ∧ Below w2.heap.size w2 wr) (fun _ x9 _ => a.length - (intOf x9).toNat)
  case atStart => exact ⟨0, by omega, rfl, rfl, Below.refl _ _⟩
  case round =>
    obtain ⟨j, hj, rfl, rfl, hb⟩ := hrel
    have HB := Aside0.mk hb
    clear hb
    by_cases hlt : j < a.length
    · obtain ⟨ad, k, hA, hk, hx⟩ := elem_at (Kd.C_below R2.out HB.out) j hlt
      have HK := Aside0.mk (I0.out k (List.mem_of_getElem? hk))
      have HG := Aside0.mk (show (get S k).getD ekU.zero = atF t k from look_hit (GS.out k (List.mem_of_getElem? hk)))
      have HN := Aside0.mk (take_snoc hk)
      have hKJ := Aside0.mk hk
      subst hA
      clear hk hx
      go_wp2
      refine wp_region_text (fun W => Below wr.heap.size wr W) (fun i => [11].contains i) (by kernel_rfl) (by kernel_rfl) (Below.refl _ _).drew ?_
      have HI := Aside0.mk ((Below.refl wr.heap.size wr).drew)
      generalize wr.drew = wd at HI ⊢
      repeat (first
        | (((first | refine S_off (wanted_no (b := true) rfl rfl (by rfl)) HI.out ?_ | refine S_off (wanted_no (b := false) rfl rfl (by rfl)) HI.out ?_ | refine S_off (wanted_undef rfl rfl (by rfl)) HI.out ?_)); go_frame)
        | ((refine S_look (x := ekU) mtSeen rfl ?_ _ _ rfl rfl (fun W hW => IsMbelow (IsMbelow M2.out SB.out HB.out) (IsMbelow M2.out SB.out HB.out).lt hW) k rfl HK.out HG.out ?_; (first | exact wanted_none rfl | exact wanted_yes rfl rfl (by kernel_rfl))); go_frame)
        | ((apply S_val rfl; (first | exact wanted_none rfl | exact wanted_yes rfl rfl (by kernel_rfl)); (intro W hW R hR; go_simp; exact hR)); go_frame)
        | ((apply S_val rfl; (first | exact wanted_none rfl | exact wanted_yes rfl rfl (by kernel_rfl)); (intro W hW R hR; have x0 := elem_in (Kd.C_below R2.out (HB.out.trans (hW.mono HB.out.size))) hKJ.out rfl; go_simp; exact hR)); go_frame)
        | ((refine S_call rfl ?_ ?_ (at_as (T2.out.below (HB.out.trans (HI.out.mono HB.out.size))) k rfl) ?_; (first | exact wanted_none rfl | exact wanted_yes rfl rfl (by kernel_rfl)); (focus (first | (go_simp; done) | (go_simp; rfl)))); rintro e wn ⟨rfl, hb⟩; have n_ := Aside0.mk (HI.out.trans (hb.mono HI.out.size)); clear HI hb; have HI := n_; clear n_; refine ⟨_, rfl, HI.out, ?_⟩; go_frame))
      apply S_nil
      have HB9 := Aside0.mk (HB.out.trans (HI.out.mono HB.out.size))
      clear HB HI
      have HB := HB9
      clear HB9
      cases hfr : freshL t u (a.take j) with
      | false =>
        go_wp2
        refine wp_region_text (fun W => Below wn.heap.size wn W) (fun i => [7, 13].contains i) (by kernel_rfl) (by kernel_rfl) (Below.refl _ _).drew ?_
        have HI := Aside0.mk ((Below.refl wn.heap.size wn).drew)
        generalize wn.drew = wd at HI ⊢
        repeat (first
          | (((first | refine S_off (wanted_no (b := true) rfl rfl (by rfl)) HI.out ?_ | refine S_off (wanted_no (b := false) rfl rfl (by rfl)) HI.out ?_ | refine S_off (wanted_undef rfl rfl (by rfl)) HI.out ?_)); go_frame)
          | ((apply S_val rfl; (first | exact wanted_none rfl | exact wanted_yes rfl rfl (by kernel_rfl)); (intro W hW R hR; go_simp; exact hR)); go_frame))
        apply S_nil
        have HB1 := Aside0.mk (HB.out.trans (HI.out.mono HB.out.size))
        go_wp2
        go_roundw
        case rel => exact ⟨j + 1, by omega, by go_num, by rw [HN.out, freshL_snoc, hfr]; rfl, HB1.out⟩
        case measure => simp [intOf]; omega
      | true =>
        go_wp2
        refine wp_region_text (fun W => Below wn.heap.size wn W) (fun i => [7, 13].contains i) (by kernel_rfl) (by kernel_rfl) (Below.refl _ _).drew ?_
        have HI := Aside0.mk ((Below.refl wn.heap.size wn).drew)
        generalize wn.drew = wd at HI ⊢
        repeat (first
          | (((first | refine S_off (wanted_no (b := true) rfl rfl (by rfl)) HI.out ?_ | refine S_off (wanted_no (b := false) rfl rfl (by rfl)) HI.out ?_ | refine S_off (wanted_undef rfl rfl (by rfl)) HI.out ?_)); go_frame)
          | ((apply S_val rfl; (first | exact wanted_none rfl | exact wanted_yes rfl rfl (by kernel_rfl)); (intro W hW R hR; go_simp; exact hR)); go_frame)
          | ((apply S_val rfl; (first | exact wanted_none rfl | exact wanted_yes rfl rfl (by kernel_rfl)); (intro W hW R hR; have x0 := elem_in (Kd.C_below R2.out (HB.out.trans (hW.mono HB.out.size))) hKJ.out rfl; go_simp; exact hR)); go_frame)
          | ((refine S_call rfl ?_ ?_ (at_as (T2.out.below (HB.out.trans (HI.out.mono HB.out.size))) k rfl) ?_; (first | exact wanted_none rfl | exact wanted_yes rfl rfl (by kernel_rfl)); (focus (first | (go_simp; done) | (go_simp; rfl)))); rintro e wn ⟨rfl, hb⟩; have n_ := Aside0.mk (HI.out.trans (hb.mono HI.out.size)); clear HI hb; have HI := n_; clear n_; refine ⟨_, rfl, HI.out, ?_⟩; go_frame)
          | ((refine S_call rfl ?_ ?_ (at_as (U2.out.below (HB.out.trans (HI.out.mono HB.out.size))) k rfl) ?_; (first | exact wanted_none rfl | exact wanted_yes rfl rfl (by kernel_rfl)); (focus (first | (go_simp; done) | (go_simp; rfl)))); rintro e wn ⟨rfl, hb⟩; have n_ := Aside0.mk (HI.out.trans (hb.mono HI.out.size)); clear HI hb; have HI := n_; clear n_; refine ⟨_, rfl, HI.out, ?_⟩; go_frame))
        apply S_nil
        have HB1 := Aside0.mk (HB.out.trans (HI.out.mono HB.out.size))
        go_wp2
        go_roundw
        case rel => exact ⟨j + 1, by omega, by go_num, by rw [HN.out, freshL_snoc, hfr]; rfl, HB1.out⟩
        case measure => simp [intOf]; omega
    · have hj' : j = a.length := by omega
      have hH := HL0.out
      rw [HS.out] at hH
      have HLS := Aside0.mk hH
      have GK := Aside0.mk (show ∀ k ∈ a, get (mergeL (atF u) S ([-5] ++ a)) k = some (atF t k) from fun k hk => by rw [← HS.out]; exact F_keep _ _ a _ hk)
      have GM := Aside0.mk (show get S (-5) = none → get (mergeL (atF u) S ([-5] ++ a)) (-5) = some (atF u (-5)) ∧ (mergeL (atF u) S ([-5] ++ a)).length = S.length + 1 from fun h => by rw [← HS.out] at h ⊢; exact F_more _ _ a (-5) h)
      have GF := Aside0.mk (show (S.all fun y => decide (atF t y.1 = y.2)) = true by rw [← HS.out]; exact F_fresh _ a)
      have GL := Aside0.mk (show (S.all fun y => decide (atF u y.1 = y.2)) = freshL t u a by rw [← HS.out]; exact F_later _ _ a)
      obtain ⟨T, hT⟩ : ∃ T, mergeL (atF u) S ([-5] ++ a) = T := ⟨_, rfl⟩
      rw [hT] at GK GM
      have HT := Aside0.mk hT
      have HI5 := Aside0.mk (show ∀ k ∈ ([-5] ++ a : List Int), okn k from fun k hk => (List.mem_append.1 hk).elim (fun h => by simp at h; subst h; exact okn_iff.2 (by omega)) (I0.out k))
      clear hT hH
      have hu := Try.underlying22
      rw [hj', List.take_length]
      clear hj' hj hlt
      go_wp2_with (first
        | ((with_reducible refine gate_dst (N := 62) rfl ?_); refine Kd.R_lit (Kd.int .i64) _ 3 ?hg (N := 62) ?hd (xs := [-5]) (inner := [.int .i64 (-5)]) (ok := fun _ => True) (okp := fun _ => True) ?hr ?hp (fun _ hk => hk) trivial (Below.refl _ _) (Nat.le_refl _) (by simp) ?_; (case hd => rfl); (case hg => rfl); (case hr => first | (go_simp; done) | (go_simp; rfl)); (case hp => exact (Reps.one rfl (Reps.none _ _))); intro v5 w5 ho hb hg_ hnew_; have HO5 := Aside0.mk ho; have HB5 := Aside0.mk hb; clear ho hb hg_ hnew_)
        | ((with_reducible refine gate_builtin (b := .append) (xs := #[.tmp 62, .tmp 63]) rfl ?_); at_builtin; refine Kd.R_append_rows (Kd.int .i64) (w0 := wr) wr.heap.size rfl (.tmp 62) (.tmp 63) 22 3 (.int .i64 0) 8 rfl Try.underlying22 info_int3 rfl (by decide) (by omega) v5 [-5] a A0 a.length c0 (fun _ => True) (fun _ => False) rfl rfl HO5.out (Kd.C_below R2.out (HB.out.trans (HB5.out.mono HB.out.size))) (fun _ _ h => h) (fun _ h => h.elim) (fun _ _ => trivial) HB5.out (below_size HB5.out) (by simp; omega) ?_; intro v7 w7 ho7 hb7 hg7 hat7; obtain ⟨A7, c7, rfl, hC7, hc7⟩ := slice_of ho7; have R7 := Aside0.mk hC7; have HB7 := Aside0.mk (HB.out.trans (hb7.mono HB.out.size)); clear hg7 hat7 ho7 hb7 hC7 hc7)
        | (go_at_call 8; refine (Merge_as (Or.inr ⟨_, rfl, IsMbelow M2.out SB.out HB7.out⟩) (by have := HLS.out; omega) R7.out (by simp; omega) HI5.out (U2.out.below HB7.out) HT.out).mono ?_; rintro e w8 ⟨s2, rfl, hs0, hm, hb⟩; have M8 := Aside0.mk hm; have HB8 := Aside0.mk (HB7.out.trans (hb.mono HB7.out.size)); have SB8 := Aside0.mk hm.lt; clear hm hb hs0))
      have R8 := Aside0.mk (Kd.C_below R2.out HB8.out)
      have M28 := Aside0.mk (IsMbelow M2.out SB.out HB8.out)
      have S28 := Aside0.mk (Nat.lt_of_lt_of_le SB.out HB8.out.size)
      have T8 := Aside0.mk (T2.out.below HB8.out)
      have U8 := Aside0.mk (U2.out.below HB8.out)
      have X8 := Aside0.mk (X2.out.trans (HB8.out.mono X2.out.size))
      clear hu HB HB5 HB7 HB8 R7 HO5 M2 R2 T2 U2 X2
      go_loopw [11] (fun x wr => ∃ j : Nat, j ≤ a.length ∧ x = .int .i64 (j : Int) ∧ Below w8.heap.size w8 wr) (fun x _ => a.length - (intOf x).toNat)
      case atStart => exact ⟨0, by omega, rfl, Below.refl _ _⟩
      case round =>
        obtain ⟨j, hj, rfl, hb⟩ := hrel
        have HB := Aside0.mk hb
        clear hb
        by_cases hlt : j < a.length
        · obtain ⟨ad, k, hA, hk, hx⟩ := elem_at (Kd.C_below R8.out HB.out) j hlt
          have HK := Aside0.mk (I0.out k (List.mem_of_getElem? hk))
          have HG := Aside0.mk (show (get S k).getD ekU.zero = atF t k from look_hit (GS.out k (List.mem_of_getElem? hk)))
          have HG2 := Aside0.mk (show (get T k).getD ekU.zero = atF t k from look_hit (GK.out k (List.mem_of_getElem? hk)))
          have hKJ := Aside0.mk hk
          subst hA
          clear hk hx
          cases h5 : (k != -5) <;> (
            go_wp2
            refine wp_region_text (fun W => Below wr.heap.size wr W) (fun i => ([] : List Nat).contains i) (by kernel_rfl) (by kernel_rfl) (Below.refl _ _).drew ?_
            have HI := Aside0.mk ((Below.refl wr.heap.size wr).drew)
            generalize wr.drew = wd at HI ⊢
            repeat (first
              | (((first | refine S_off (wanted_no (b := true) rfl rfl (by rfl)) HI.out ?_ | refine S_off (wanted_no (b := false) rfl rfl (by rfl)) HI.out ?_ | refine S_off (wanted_undef rfl rfl (by rfl)) HI.out ?_)); go_frame)
              | ((refine S_look (x := ekU) mtSeen rfl ?_ _ _ rfl rfl (fun W hW => IsMbelow (IsMbelow M8.out SB8.out HB.out) (IsMbelow M8.out SB8.out HB.out).lt hW) k rfl HK.out HG2.out ?_; (first | exact wanted_none rfl | exact wanted_yes rfl rfl (by kernel_rfl))); go_frame)
              | ((refine S_look (x := ekU) mtSeen rfl ?_ _ _ rfl rfl (fun W hW => IsMbelow (IsMbelow M28.out S28.out HB.out) (IsMbelow M28.out S28.out HB.out).lt hW) k rfl HK.out HG.out ?_; (first | exact wanted_none rfl | exact wanted_yes rfl rfl (by kernel_rfl))); go_frame)
              | ((apply S_val rfl; (first | exact wanted_none rfl | exact wanted_yes rfl rfl (by kernel_rfl)); (intro W hW R hR; go_simp; exact hR)); go_frame)
              | ((apply S_val rfl; (first | exact wanted_none rfl | exact wanted_yes rfl rfl (by kernel_rfl)); (intro W hW R hR; have x0 := elem_in (Kd.C_below R8.out (HB.out.trans (hW.mono HB.out.size))) hKJ.out rfl; go_simp; exact hR)); go_frame))
            apply S_nil
            have HB1 := Aside0.mk (HB.out.trans (HI.out.mono HB.out.size))
            go_wp2
            go_roundw
            all_goals first | exact ⟨j + 1, by omega, by go_num, HB1.out⟩ | (simp [intOf]; omega))
        · have hj' : j = a.length := by omega
          rw [hj']
          clear hj' hj hlt
          have MS := Aside0.mk (IsMbelow M28.out S28.out HB.out)
          have MT := Aside0.mk (IsMbelow M8.out SB8.out HB.out)
          have TT := Aside0.mk (T8.out.below HB.out)
          have UU := Aside0.mk (U8.out.below HB.out)
          have XX := Aside0.mk (X8.out.trans (HB.out.mono X8.out.size))
          clear R8 M8 M28 SB8 S28 T8 U8 X8 HB SB HI5
          cases hin : get S (-5) with
          | some v5 =>
            have HIN := Aside0.mk hin
            clear hin
            go_wp2_with (at_lookup; refine wp_look_ok (x := ekU) mtSeen rfl _ _ rfl rfl MS.out (-5) rfl (okn_iff.2 (by omega)) ?_; simp only [HIN.out, Option.isSome_some, Option.getD_some, ekU_val])
            refine wp_region_text (fun W => Below wr.heap.size wr W) (fun i => [4, 10, 20].contains i) (by kernel_rfl) (by kernel_rfl) (Below.refl _ _).drew ?_
            have HI := Aside0.mk ((Below.refl wr.heap.size wr).drew)
            generalize wr.drew = wd at HI ⊢
            repeat (first
              | (((first | refine S_off (wanted_no (b := true) rfl rfl (by rfl)) HI.out ?_ | refine S_off (wanted_no (b := false) rfl rfl (by rfl)) HI.out ?_ | refine S_off (wanted_undef rfl rfl (by rfl)) HI.out ?_)); go_frame)
              | ((apply S_val rfl; (first | exact wanted_none rfl | exact wanted_yes rfl rfl (by kernel_rfl)); (intro W hW R hR; go_simp; exact hR)); go_frame)
              | ((refine S_len (x := ekU) mtSeen rfl ?_ _ rfl rfl (fun W hW => IsMbelow MS.out MS.out.lt hW) rfl ?_; (first | exact wanted_none rfl | exact wanted_yes rfl rfl (by kernel_rfl))); go_frame)
              | ((refine S_call rfl ?_ ?_ (Fresh_as (IsMbelow MS.out MS.out.lt HI.out) (TT.out.below HI.out) GF.out) ?_; (first | exact wanted_none rfl | exact wanted_yes rfl rfl (by kernel_rfl)); (focus (first | (go_simp; done) | (go_simp; rfl)))); rintro e wn ⟨rfl, hb⟩; have n_ := Aside0.mk (HI.out.trans (hb.mono HI.out.size)); clear HI hb; have HI := n_; clear n_; refine ⟨_, rfl, HI.out, ?_⟩; go_frame)
              | ((refine S_call rfl ?_ ?_ (Fresh_as (IsMbelow MS.out MS.out.lt HI.out) (UU.out.below HI.out) GL.out) ?_; (first | exact wanted_none rfl | exact wanted_yes rfl rfl (by kernel_rfl)); (focus (first | (go_simp; done) | (go_simp; rfl)))); rintro e wn ⟨rfl, hb⟩; have n_ := Aside0.mk (HI.out.trans (hb.mono HI.out.size)); clear HI hb; have HI := n_; clear n_; refine ⟨_, rfl, HI.out, ?_⟩; go_frame))
            apply S_nil
            have XE := Aside0.mk (XX.out.trans (HI.out.mono XX.out.size))
            go_wp2
            go_ret
            exact ⟨rfl, XE.out⟩
          | none =>
            have HIN := Aside0.mk hin
            have HTG := Aside0.mk (look_hit (z := ekU.zero) (GM.out hin).1)
            have HTL := Aside0.mk (show (T.length : Int) = IntKind.i64.wrap ((S.length : Int) + 1) by rw [(GM.out hin).2]; have := HLS.out; simp [IntKind.wrap, IntKind.signed, IntKind.bits]; omega)
            clear hin
            go_wp2_with (at_lookup; refine wp_look_ok (x := ekU) mtSeen rfl _ _ rfl rfl MS.out (-5) rfl (okn_iff.2 (by omega)) ?_; simp only [HIN.out, Option.isSome_none, Option.getD_none, ekU_val, ekU_zero])
            refine wp_region_text (fun W => Below wr.heap.size wr W) (fun i => [4, 10, 20].contains i) (by kernel_rfl) (by kernel_rfl) (Below.refl _ _).drew ?_
            have HI := Aside0.mk ((Below.refl wr.heap.size wr).drew)
            generalize wr.drew = wd at HI ⊢
            repeat (first
              | (((first | refine S_off (wanted_no (b := true) rfl rfl (by rfl)) HI.out ?_ | refine S_off (wanted_no (b := false) rfl rfl (by rfl)) HI.out ?_ | refine S_off (wanted_undef rfl rfl (by rfl)) HI.out ?_)); go_frame)
              | ((refine S_look (x := ekU) mtSeen rfl ?_ _ _ rfl rfl (fun W hW => IsMbelow MT.out MT.out.lt hW) (-5) rfl (okn_iff.2 (by omega)) HTG.out ?_; (first | exact wanted_none rfl | exact wanted_yes rfl rfl (by kernel_rfl))); go_frame)
              | ((apply S_val rfl; (first | exact wanted_none rfl | exact wanted_yes rfl rfl (by kernel_rfl)); (intro W hW R hR; go_simp; exact hR)); go_frame)
              | ((refine S_len (x := ekU) mtSeen rfl ?_ _ rfl rfl (fun W hW => IsMbelow MT.out MT.out.lt hW) HTL.out ?_; (first | exact wanted_none rfl | exact wanted_yes rfl rfl (by kernel_rfl))); go_frame)
              | ((refine S_len (x := ekU) mtSeen rfl ?_ _ rfl rfl (fun W hW => IsMbelow MS.out MS.out.lt hW) rfl ?_; (first | exact wanted_none rfl | exact wanted_yes rfl rfl (by kernel_rfl))); go_frame)
              | ((refine S_call rfl ?_ ?_ (Fresh_as (IsMbelow MS.out MS.out.lt HI.out) (TT.out.below HI.out) GF.out) ?_; (first | exact wanted_none rfl | exact wanted_yes rfl rfl (by kernel_rfl)); (focus (first | (go_simp; done) | (go_simp; rfl)))); rintro e wn ⟨rfl, hb⟩; have n_ := Aside0.mk (HI.out.trans (hb.mono HI.out.size)); clear HI hb; have HI := n_; clear n_; refine ⟨_, rfl, HI.out, ?_⟩; go_frame)
              | ((refine S_call rfl ?_ ?_ (Fresh_as (IsMbelow MS.out MS.out.lt HI.out) (UU.out.below HI.out) GL.out) ?_; (first | exact wanted_none rfl | exact wanted_yes rfl rfl (by kernel_rfl)); (focus (first | (go_simp; done) | (go_simp; rfl)))); rintro e wn ⟨rfl, hb⟩; have n_ := Aside0.mk (HI.out.trans (hb.mono HI.out.size)); clear HI hb; have HI := n_; clear n_; refine ⟨_, rfl, HI.out, ?_⟩; go_frame)
              | ((refine S_call rfl ?_ ?_ (at_as (UU.out.below HI.out) (-5) rfl) ?_; (first | exact wanted_none rfl | exact wanted_yes rfl rfl (by kernel_rfl)); (focus (first | (go_simp; done) | (go_simp; rfl)))); rintro e wn ⟨rfl, hb⟩; have n_ := Aside0.mk (HI.out.trans (hb.mono HI.out.size)); clear HI hb; have HI := n_; clear n_; refine ⟨_, rfl, HI.out, ?_⟩; go_frame))
            apply S_nil
            have XE := Aside0.mk (XX.out.trans (HI.out.mono XX.out.size))
            go_wp2
            go_ret
            exact ⟨rfl, XE.out⟩
end Go.Proofs.Ytoakfmdfajpejaa.Sets
