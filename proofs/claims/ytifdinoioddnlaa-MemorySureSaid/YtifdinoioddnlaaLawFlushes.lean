/- Where all lines are flushed, and fenced, no word is loose, and a crash that keeps none changes nothing; a flush without a fence makes nothing sure. -/
import Derived.Handy
import Derived.Deep.RegionWith
import Derived.Deep.RegionLaw
import Derived.Test.YtifdinoioddnlaaLawD
namespace Go.Proofs.Ytifdinoioddnlaa.Mem
open Go Go.RowKit Go.Proofs.Ytifdinoioddnlaa.ML Go.Proofs.YtifdinoioddnlaaW.PrintWords Go.Proofs.YtifdinoioddnlaaW.PrintLast Go.Proofs.YtifdinoioddnlaaW.PrintMore Go.Proofs.Ytifdinoioddnlaa.Print
set_option linter.unusedVariables false
set_option linter.unusedSimpArgs false
theorem make30 : ∃ ZZ : Array Value, ZZ.toList = (List.replicate 30 0).map (Value.int .u64) ∧ ∀ W, (Instr.makeSlice 22 (.int .i64 30) (.int .i64 30)).run Try.prog W = .ok (.slice (some ⟨W.heap.size, 0, none⟩) 30 30) (W.alloc (.cells ZZ 31)) := by
  obtain ⟨i0, hi, hzz⟩ := Option.map_eq_some_iff.1 info_u64c
  simp only [Prod.mk.injEq] at hzz
  obtain ⟨hz0, hz1, hz2⟩ := hzz
  refine ⟨madeCells (Value.int .u64 0).cells 30, by kernel_rfl, fun W => ?_⟩
  have hr := run_make (P := Try.prog) (w := W) 22 31 i0 (.int .u64 0) Try.underlying22 hi hz0 .i64 .i64 30 30 (by omega) (by omega) (by rw [hz2]; decide) (by omega)
  rw [hz1] at hr
  exact hr
theorem zeros_C {ZZ : Array Value} (hZ : ZZ.toList = (List.replicate 30 0).map (Value.int .u64)) (W : World) : Kd.C (Kd.int .u64) (W.alloc (.cells ZZ 31)) (some ⟨W.heap.size, 0, none⟩) 30 (List.replicate 30 0) := by
  have h := World.ownsRow_lit (base := 0) (e := 31) (size := 1) W ZZ 30 (Nat.zero_le _) (by unfold maxLen; omega) (by rw [← Array.length_toList, hZ]; simp)
  rw [hZ] at h
  have h2 : (W.alloc (.cells ZZ 31)).ownsRow 0 31 1 (.slice (some ⟨W.heap.size, 0, none⟩) 30 30) (List.replicate 30 (0 : Int)).length ((List.replicate 30 0).map (Value.int .u64)) := by
    rw [List.length_replicate]; exact h
  exact (Kd.R_reads' (R_of_row h2)).2.2
set_option maxHeartbeats 8000000 in
set_option maxRecDepth 100000 in
theorem MemoryFlushes_calls (w : World) (A0 : Option Addr) (c0 : Nat) (l : List S40) (hr0 : Kd.C k40 w A0 l.length l) (hc0 : l.length ≤ c0) (hl : ∀ o ∈ l, okOp o) :
    Calls Try.prog 8 #[.slice A0 l.length c0] w fun e w' => e = .returned (.bool true) ∧ Below w.heap.size w w' := by
  have HS := Aside0.mk (Script.mk hr0 hc0 hl)
  have hlen : l.length ≤ 9223372036854775807 := hr0.2.1
  clear hr0 hl
  go_enter Try.func8, Try.ntmps8
  go_wp2_with fail
  refine (lives_calls _).mono ?_
  rintro e w1 ⟨rfl, hb⟩
  have B1 := Aside0.mk hb
  clear hb
  go_wp2_with fail
  refine (early_calls _ A0 l.length c0 hc0 hlen).mono ?_
  rintro e w' ⟨n, hn, rfl, rfl⟩
  have HT := Aside0.mk (HS.out.take n hn)
  have hn2 : n ≤ 200 := by omega
  clear hn
  go_wp2_with fail
  refine (New_calls _ 30 (by unfold oki; omega)).mono ?_
  rintro e w2 ⟨f, rfl, h2, hf, hb⟩
  have HF := Aside0.mk hf
  have HM := Aside0.mk h2
  have B2 := Aside0.mk (B1.out.trans (hb.mono B1.out.size))
  have B12 := Aside0.mk hb.size
  clear hf hb h2
  go_wp2_with fail
  refine (New_calls _ 30 (by unfold oki; omega)).mono ?_
  rintro e w3 ⟨g, rfl, h3, hg, hb⟩
  have hlt := HM.out.lts
  have FM := Aside0.mk (HM.out.below hb)
  have GM := Aside0.mk h3
  have HD := Aside0.mk (show ∀ b ∈ g.list, b ∉ f.list from fun b hb hm => by have := hlt b hm; have := hg b hb; omega)
  have HE := Aside0.mk (show ∀ b ∈ f.list, b ∉ g.list from fun b hb hm => by have := hlt b hb; have := hg b hm; omega)
  have FB := Aside0.mk (show ∀ b ∈ f.list, w.heap.size ≤ b from fun b hb => Nat.le_trans B1.out.size (HF.out b hb))
  have GB := Aside0.mk (show ∀ b ∈ g.list, w.heap.size ≤ b from fun b hb => Nat.le_trans B2.out.size (hg b hb))
  have B3 := Aside0.mk (B2.out.trans (hb.mono B2.out.size))
  clear hg hb h3 hlt HF HM
  go_wp2
  go_loopw [5] (fun x wr => ∃ (k : Nat) (S : MS), k ≤ n ∧ x = .int .i64 (k : Int) ∧ IsMem wr f S ∧ IsMem wr g S ∧ Fresh S ∧ Below w.heap.size w wr) (fun x _ => n - (intOf x).toNat)
  case atStart => exact ⟨0, newS 30, by omega, rfl, FM.out, GM.out, ⟨by have := newS_len 30; omega, rfl, fun i _ _ => by rw [newS_at]; exact ⟨rfl, rfl⟩⟩, B3.out⟩
  case round =>
    obtain ⟨k, S, hk, rfl, hmf, hmg, hfr, hbr⟩ := hrel
    have MF := Aside0.mk hmf
    have MG := Aside0.mk hmg
    have FR := Aside0.mk hfr
    have BR := Aside0.mk hbr
    clear hmf hmg hfr hbr
    by_cases hlt : k < n
    · obtain ⟨o, ad, KA, kc, ho, hok, hA, x0, x1, x2, x3, hle, hC⟩ := HT.out.at BR.out k hlt
      subst hA
      have HO := Aside0.mk hok
      have HO1 := Aside0.mk ho
      have HC := Aside0.mk hC
      have HLE := Aside0.mk hle
      clear ho hok hC hle
      by_cases hk0 : kindOf o.f0 = 0
      · have g4 : (kindOf o.f0 == 0) = true := by simp [hk0]
        have HK0 := Aside0.mk hk0
        clear hk0
        go_wp2_with fail
        refine (kind_calls _ _ _ _ _ _ _ (Kd.C_below HC.out BR.out) HLE.out).mono ?_
        rintro e w4 ⟨rfl, hb⟩
        have B4 := Aside0.mk (BR.out.trans (hb.mono BR.out.size))
        have F4 := Aside0.mk (MF.out.below hb)
        have G4 := Aside0.mk (MG.out.below hb)
        clear hb x0 x1 x2 x3
        obtain ⟨o1, ad1, KA1, kc1, ho1, hok1, hA1, x0, x1, x2, x3, hle1, hC1⟩ := HT.out.at B4.out k hlt
        obtain rfl : o = o1 := Option.some.inj (HO1.out.symm.trans ho1)
        obtain rfl : ad = ad1 := Option.some.inj hA1
        have HC1 := Aside0.mk hC1
        have HLE1 := Aside0.mk hle1
        clear ho1 hok1 hA1 hle1 hC1
        go_wp2_with fail
        refine (does_as F4.out B4.out FB.out o HO.out KA1 kc1 HC1.out HLE1.out).mono ?_
        rintro e w5 ⟨q, S', rfl, h1, h2, h3, h4⟩
        have F5 := Aside0.mk h1
        have D5 := Aside0.mk h2
        have G5 := Aside0.mk (G4.out.kept h3 HD.out)
        have B5 := Aside0.mk h4
        clear h1 h2 h3 h4 x0 x1 x2 x3
        obtain ⟨o2, ad2, KA2, kc2, ho2, hok2, hA2, x0, x1, x2, x3, hle2, hC2⟩ := HT.out.at B5.out k hlt
        obtain rfl : o = o2 := Option.some.inj (HO1.out.symm.trans ho2)
        obtain rfl : ad = ad2 := Option.some.inj hA2
        have HC2 := Aside0.mk hC2
        have HLE2 := Aside0.mk hle2
        clear ho2 hok2 hA2 hle2 hC2
        go_wp2_with fail
        refine (does_as G5.out B5.out GB.out o HO.out KA2 kc2 HC2.out HLE2.out).mono ?_
        rintro e w6 ⟨q2, S2, rfl, h1, h2, h3, h4⟩
        have F6 := Aside0.mk (F5.out.kept h3 HE.out)
        have E6 := D5.out.det h2 (by have := HK0.out; omega)
        have G6 := Aside0.mk (show IsMem w6 g S' by rw [E6.2]; exact h1)
        have B6 := Aside0.mk h4
        clear h1 h2 h3 h4 E6 x0 x1 x2 x3
        go_wp2
        go_roundw
        case rel => exact ⟨k + 1, S', by omega, by go_num, F6.out, G6.out, FR.out.store D5.out HK0.out, B6.out⟩
        case measure => simp [intOf]; omega
      · have g4 : (kindOf o.f0 == 0) = false := by simp [hk0]
        clear hk0
        go_wp2_with fail
        refine (kind_calls _ _ _ _ _ _ _ (Kd.C_below HC.out BR.out) HLE.out).mono ?_
        rintro e w4 ⟨rfl, hb⟩
        have B4 := Aside0.mk (BR.out.trans (hb.mono BR.out.size))
        have F4 := Aside0.mk (MF.out.below hb)
        have G4 := Aside0.mk (MG.out.below hb)
        clear hb x0 x1 x2 x3
        go_wp2
        go_roundw
        case rel => exact ⟨k + 1, S, by omega, by go_num, F4.out, G4.out, FR.out, B4.out⟩
        case measure => simp [intOf]; omega
    · obtain rfl : k = n := by omega
      clear hlt hk
      obtain ⟨m, hm⟩ : ∃ m, S.keys.length = m := ⟨_, rfl⟩
      have KL := Aside0.mk hm
      clear hm
      go_wp2_with fail
      refine (Loose_as MG.out m KL.out).mono ?_
      rintro e w4 ⟨A4, c4, rfl, hR, hb⟩
      have B4 := Aside0.mk (BR.out.trans (hb.mono BR.out.size))
      have F4 := Aside0.mk (MF.out.below hb)
      have G4 := Aside0.mk (MG.out.below hb)
      clear hb hR
      go_wp2
      go_loopw [7] (fun x wr2 => ∃ (j : Nat) (Sf Sg : MS), j ≤ 30 ∧ x = .int .i64 (j : Int) ∧ IsMem wr2 f Sf ∧ IsMem wr2 g Sg ∧ FlTo S j Sf ∧ FlTo S j Sg ∧ Below w.heap.size w wr2) (fun x _ => 30 - (intOf x).toNat)
      case atStart => exact ⟨0, S, S, by omega, rfl, F4.out, G4.out, FlTo.start FR.out, FlTo.start FR.out, B4.out⟩
      case round =>
        obtain ⟨j, Sf, Sg, hj, rfl, hmf, hmg, hf2, hg2, hb2⟩ := hrel
        have MF2 := Aside0.mk hmf
        have MG2 := Aside0.mk hmg
        have EF := Aside0.mk hf2
        have EG := Aside0.mk hg2
        have B5 := Aside0.mk hb2
        clear hmf hmg hf2 hg2 hb2
        by_cases hlt : j < 30
        · have SF := Aside0.mk (EF.out.step (by omega) (by omega))
          have SG := Aside0.mk (EG.out.step (by omega) (by omega))
          go_wp2_with fail
          refine (Flush_as MF2.out (j : Int) (by unfold oki; omega) 0 SF.out.1).mono ?_
          rintro e w6 ⟨rfl, h1, h2⟩
          have F6 := Aside0.mk h1
          have G6 := Aside0.mk (MG2.out.kept h2 HD.out)
          have B6 := Aside0.mk (B5.out.trans (h2.below B5.out.size FB.out))
          clear h1 h2
          go_wp2_with fail
          refine (Flush_as G6.out (j : Int) (by unfold oki; omega) 0 SG.out.1).mono ?_
          rintro e w7 ⟨rfl, h1, h2⟩
          have G7 := Aside0.mk h1
          have F7 := Aside0.mk (F6.out.kept h2 HE.out)
          have B7 := Aside0.mk (B6.out.trans (h2.below B6.out.size GB.out))
          clear h1 h2
          go_wp2
          go_roundw
          case rel => exact ⟨j + 1, _, _, by omega, by go_num, F7.out, G7.out, SF.out.2, SG.out.2, B7.out⟩
          case measure => simp [intOf]; omega
        · obtain rfl : j = 30 := by omega
          have EF30 := Aside0.mk (show FlTo S 30 Sf from EF.out)
          have EG30 := Aside0.mk (show FlTo S 30 Sg from EG.out)
          have FE := Aside0.mk (EF30.out.fence (by omega))
          have KG := Aside0.mk (EG30.out.keys FR.out.len)
          have IL := Aside0.mk (show Sf.image.length ≤ 9223372036854775806 by have := MF2.out.ok.len; simp [MS.image]; omega)
          have LT := Aside0.mk (show ∀ b, (b ∈ f.list ∨ b ∈ g.list) → b < wr.heap.size from fun b hb => hb.elim (MF2.out.lts b) (MG2.out.lts b))
          have g30 : decide ((30 : Int) < 30) = false := by decide
          clear hlt hj EF EG
          go_wp2_with fail
          refine (Image_as MF2.out _ rfl).mono ?_
          rintro e w6 ⟨A6, c6, rfl, hR, hb⟩
          have HI6 := Aside0.mk hR
          have F6 := Aside0.mk (MF2.out.below hb)
          have G6 := Aside0.mk (MG2.out.below hb)
          have B6 := Aside0.mk (B5.out.trans (hb.mono B5.out.size))
          clear hR hb
          go_wp2_with fail
          refine (Fence_as F6.out 0 FE.out.1).mono ?_
          rintro e w7 ⟨rfl, h1, h2⟩
          have F7 := Aside0.mk h1
          have G7 := Aside0.mk (G6.out.kept h2 HD.out)
          have HI7 := Aside0.mk (R_turn HI6.out h2 (fun b hb => LT.out b (.inl hb)))
          have B7 := Aside0.mk (B6.out.trans (h2.below B6.out.size FB.out))
          clear h1 h2
          go_wp2_with fail
          refine (Loose_as F7.out 0 (by rw [keys_nil fun i i0 i1 => by rw [FE.out.2.2 i i0 (by rw [FE.out.2.1] at i1; exact i1)]]; rfl)).mono ?_
          rintro e w8 ⟨A8, c8, rfl, hR, hb⟩
          have HI8 := Aside0.mk (Kd.R_below HI7.out hb)
          have F8 := Aside0.mk (F7.out.below hb)
          have G8 := Aside0.mk (G7.out.below hb)
          have B8 := Aside0.mk (B7.out.trans (hb.mono B7.out.size))
          clear hR hb
          go_wp2_with fail
          refine (Loose_as G8.out m (by rw [KG.out]; exact KL.out)).mono ?_
          rintro e w9 ⟨A9, c9, rfl, hR, hb⟩
          have HI9 := Aside0.mk (Kd.R_below HI8.out hb)
          have F9 := Aside0.mk (F8.out.below hb)
          have G9 := Aside0.mk (G8.out.below hb)
          have B9 := Aside0.mk (B8.out.trans (hb.mono B8.out.size))
          clear hR hb
          have gm : ((m : Int) == (m : Int)) = true := by simp
          go_wp2_with fail
          refine (Crash_calls F9.out none 0 [] (bools_nil _ _) (by simp)).mono ?_
          rintro e w10 ⟨rfl, ⟨S10, h1, hc1⟩, h2⟩
          have F10 := Aside0.mk h1
          have G10 := Aside0.mk (G9.out.kept h2 HD.out)
          have HI10 := Aside0.mk (R_turn HI9.out h2 (fun b hb => LT.out b (.inl hb)))
          have B10 := Aside0.mk (B9.out.trans (h2.below B9.out.size FB.out))
          have CF := Aside0.mk (show S10.image = Sf.image from (hc1.image_none (fun i i0 i1 => by rw [FE.out.2.2 i i0 (by rw [FE.out.2.1] at i1; exact i1)]; rfl)).trans (image_ext (FE.out.2.1.trans EF30.out.len.symm) fun i i0 i1 => by rw [FE.out.2.2 i i0 (by rw [FE.out.2.1] at i1; exact i1)]; rfl))
          clear h1 h2 hc1
          go_wp2_with fail
          refine (Crash_calls G10.out none 0 [] (bools_nil _ _) (by simp)).mono ?_
          rintro e w11 ⟨rfl, ⟨S11, h1, hc1⟩, h2⟩
          have G11 := Aside0.mk h1
          have F11 := Aside0.mk (F10.out.kept h2 HE.out)
          have HI11 := Aside0.mk (R_turn HI10.out h2 (fun b hb => LT.out b (.inr hb)))
          have B11 := Aside0.mk (B10.out.trans (h2.below B10.out.size GB.out))
          have CG := Aside0.mk (show S11.image = List.replicate 30 0 from by
            refine List.ext_getElem? fun i => ?_
            have hl11 : S11.ws.length = 30 := hc1.len.trans EG30.out.len
            rcases Nat.lt_or_ge i 30 with hi | hi
            · have e1 := image_get S11 (i : Int) (by omega) (by omega)
              rw [Int.toNat_natCast] at e1
              obtain ⟨x, a, _, c, _⟩ := hc1.cell (i : Int) (by omega) (by rw [EG30.out.len]; omega)
              rw [e1, a]
              have := (EG30.out.cell (i : Int) (by omega) (by omega)).1
              rw [← c rfl] at this
              subst this
              rw [List.getElem?_replicate, if_pos hi]
              rfl
            · rw [List.getElem?_eq_none (by rw [MS.image_len]; omega), List.getElem?_eq_none (by simp; omega)])
          clear h1 h2 hc1
          have FW := Aside0.mk (show ∀ W, Below w11.heap.size w11 W → IsMem W f S10 from fun W hW => F11.out.below hW)
          have GW := Aside0.mk (show ∀ W, Below w11.heap.size w11 W → IsMem W g S11 from fun W hW => G11.out.below hW)
          have IW := Aside0.mk (show ∀ W, Below w11.heap.size w11 W → Kd.R (Kd.int .u64) 31 W wr.heap.size (fun _ => True) (.slice A6 Sf.image.length c6) Sf.image from fun W hW => Kd.R_below HI11.out hW)
          obtain ⟨ZZ, hZ, hmk⟩ := make30
          have HZ := Aside0.mk hZ
          clear hZ
          go_wp2
          go_region_law (first
            | (go_simp; go_at_call_of 14 (ptr f); refine (Image_as (FW.out _ (by exact (Below.refl _ _).drew)) _ CF.out).mono ?_; rintro e w12 ⟨A12, c12, rfl, hR, hb⟩; have HR12 := Aside0.mk hR; have BX := Aside0.mk (show Below w11.heap.size w11 w12 from (Below.refl _ _).drew.trans hb); clear hR hb)
            | (go_simp; go_at_call_of 13 (Value.slice A12 Sf.image.length c12); refine (Same_calls Sf.image IL.out _ _ c12 _ _ c6 (by exact (Kd.R_reads' HR12.out).2.2) (by exact (Kd.R_reads' HR12.out).2.1) (by exact (Kd.R_reads' (IW.out _ BX.out)).2.2) (by exact (Kd.R_reads' (IW.out _ BX.out)).2.1)).mono ?_; rintro e w13 ⟨rfl, hb⟩; have BY := Aside0.mk (show Below w11.heap.size w11 w13 from BX.out.trans (hb.mono BX.out.size)); clear hb)
            | (go_simp; go_at_call_of 14 (ptr g); refine (Image_as (GW.out _ (by first | exact BY.out | exact BY.out.alloc BY.out.size _)) _ CG.out).mono ?_; rintro e w14 ⟨A14, c14, rfl, hR, hb⟩; have HR14 := Aside0.mk hR; have BZ := Aside0.mk (show Below w11.heap.size w11 w14 from (by first | exact BY.out.trans (hb.mono BY.out.size) | exact (BY.out.alloc BY.out.size _).trans (hb.mono (BY.out.alloc BY.out.size _).size))); have HBZ := Aside0.mk hb; clear hR hb)
            | (go_simp; go_at_call 13; refine (Same_calls (List.replicate 30 0) (by simp) _ 30 c14 _ 30 30 (by first | exact (Kd.R_reads' HR14.out).2.2 | exact Kd.C_below (Kd.R_reads' HR14.out).2.2 ((Below.refl _ _).alloc (Nat.le_refl _) _)) (by exact (Kd.R_reads' HR14.out).2.1) (by first | exact zeros_C HZ.out _ | exact Kd.C_below (zeros_C HZ.out _) HBZ.out) (Nat.le_refl _)).mono ?_; rintro e w15 ⟨rfl, hb⟩; have BE := Aside0.mk (show Below w11.heap.size w11 w15 from (by first | exact BZ.out.trans (hb.mono BZ.out.size) | exact (BZ.out.alloc BZ.out.size _).trans (hb.mono (BZ.out.alloc BZ.out.size _).size))); clear hb))
          all_goals go_wp2
          all_goals go_ret
          all_goals exact ⟨rfl, B11.out.trans (BE.out.mono B11.out.size)⟩
end Go.Proofs.Ytifdinoioddnlaa.Mem
