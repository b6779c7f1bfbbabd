/- Sets of files: SetsHolds. (Printed by wip/tools/mk15w.py.) -/
import Derived.Test.YtoakfmdfajpejaaLwA
import Derived.Test.YtoakfmdfajpejaaSetH
namespace Go.Proofs.Ytoakfmdfajpejaa.Sets
open Go Go.Maps Go.RowKit Go.Proofs.Ytoakfmdfajpejaa.ML Go.Proofs.Ytoakfmdfajpejaa.Reg Go.Proofs.Ytoakfmdfajpejaa.Print Go.Proofs.YtoakfmdfajpejaaW.PrintWords Go.Proofs.YtoakfmdfajpejaaW.PrintLast Go.Proofs.YtoakfmdfajpejaaW.PrintMore
set_option linter.unusedVariables false
set_option linter.unusedSimpArgs false
theorem Free_as {w : World} {v : Value} {m : List (Int × Int)} (h : MvI w v m) {A : Option Addr} {c : Nat} {l : List Int} (hr : Kd.C (Kd.int .i64) w A l.length l) (hl : l.length ≤ 1000) (hi : ∀ k ∈ l, okn k) (me : Int) {q : Bool} (hq : freeL m me l = q) :
    Calls Try.prog 17 #[.slice A l.length c, v, .int .i64 me] w fun e w' => e = .returned (.bool q) ∧ Below w.heap.size w w' := by
  subst hq
  exact Free_calls h hr hl hi me
theorem me_ok (me : Int) : 1 ≤ wrap64 (1 + wrap64 ((IntKind.u64.wrap me).tmod 9)) ∧ okn (wrap64 (1 + wrap64 ((IntKind.u64.wrap me).tmod 9))) := by
  rw [okn_iff, wrapu_eq]
  have h0 : 0 ≤ me % 18446744073709551616 := by omega
  generalize me % 18446744073709551616 = z at h0
  rw [Int.tmod_eq_emod_of_nonneg h0]
  have h1 : wrap64 (z % 9) = z % 9 := by unfold wrap64; omega
  rw [h1]
  unfold wrap64
  omega
theorem mine_snoc (me : Int) (a : List Int) (k : Int) : mine me (a ++ [k]) = mine me a ++ [⟨k, me⟩] := by simp [mine]
theorem next_ok {f : List Hd} {a : List Int} {mq : Int} {F : Bool} {nx : List Hd} (h1 : ∀ y ∈ f, okn y.f0 ∧ okn y.f1) (h2 : ∀ k ∈ a, okn k) (h : (if F = true then f ++ mine mq a else f) = nx) : ∀ y ∈ nx, okn y.f0 := by
  intro y hy
  rw [← h] at hy
  split at hy
  · rcases List.mem_append.1 hy with hy | hy
    · exact (h1 y hy).1
    · obtain ⟨k, hk, rfl⟩ := List.mem_map.1 hy
      exact h2 k hk
  · exact (h1 y hy).1
set_option maxHeartbeats 2000000 in
set_option maxRecDepth 8000 in
theorem SetsHolds_calls (w : World) (A0 : Option Addr) (c0 : Nat) (l0 : List Hd) (A1 : Option Addr) (c1 : Nat) (l1 : List Int) (me : Int) (hr0 : Kd.C k50 w A0 l0.length l0) (hc0 : l0.length ≤ c0) (hn0 : l0.length ≤ 9223372036854775806) (hi0 : ∀ y ∈ l0, okn y.f0 ∧ okn y.f1) (hr1 : Kd.C (Kd.int .i64) w A1 l1.length l1) (hc1 : l1.length ≤ c1) (hi1 : ∀ k ∈ l1, okn k) (hme : okn me) :
    Calls Try.prog 5 #[.slice A0 l0.length c0, .slice A1 l1.length c1, .int .i64 me] w fun e w' => e = .returned (.bool true) ∧ Below w.heap.size w w' := by
  obtain ⟨a, ha⟩ : ∃ a, l1.take 60 = a := ⟨_, rfl⟩
  obtain ⟨f, hf⟩ : ∃ f, fitL l0 = f := ⟨_, rfl⟩
  have hmin1 : (if 60 < (l1.length : Int) then (60 : Int) else (l1.length : Int)) = (a.length : Int) := by rw [← ha, List.length_take]; split <;> omega
  have ha1 : a.length ≤ c1 := by rw [← ha]; exact Nat.le_trans (List.length_take_le' ..) hc1
  have hna : a.length ≤ 60 := by rw [← ha]; exact List.length_take_le ..
  have hra := C_cut60 hr1
  rw [ha] at hra
  have RA0 := Aside0.mk hra
  have IA := Aside0.mk (show ∀ k ∈ a, okn k from fun k hk => hi1 k (List.mem_of_mem_take (ha ▸ hk)))
  have hnf : f.length ≤ 60 := by rw [← hf]; exact fitL_len l0
  have PF := Aside0.mk (show ∀ y ∈ f, y.f1 > 0 from fun y hy => fitL_pos (l := l0) (by rw [hf]; exact hy))
  have IF := Aside0.mk (show ∀ y ∈ f, okn y.f0 ∧ okn y.f1 from fun y hy => hi0 y (fitL_mem (by rw [hf]; exact hy)))
  have CA := Aside0.mk ha1
  have HF := Aside0.mk hf
  have R0 := Aside0.mk hr0
  have ME := Aside0.mk hme
  have C0 := Aside0.mk hc0
  have N0 := Aside0.mk hn0
  clear hra hr0 hr1 hi0 hi1 hc1 ha hf hme hc0 hn0
  go_enter Try.func5, Try.ntmps5
  go_upto_region 5 with (first
    | (go_at_call 7; refine (lives_calls _).mono ?_; rintro e w1 ⟨rfl, hb⟩; have X1 := Aside0.mk hb; clear hb)
    | (go_at_call 13; refine (fit_as (Kd.C_below R0.out X1.out) C0.out N0.out HF.out).mono ?_; rintro e w2 ⟨A2, c2, rfl, hC, hd, hb⟩; have RF := Aside0.mk hC; have CF := Aside0.mk hd; have X2 := Aside0.mk (X1.out.trans (hb.mono X1.out.size)); clear hC hd hb))
  by_cases hlt : me < 1
  · have hltb : decide (me < 1) = true := decide_eq_true hlt
    clear hlt hmin1 ha1
    go_upto_region 7 with (fail)
    generalize hq : wrap64 (1 + wrap64 ((IntKind.u64.wrap me).tmod 9)) = mq
    have M1 := Aside0.mk (show 1 ≤ mq by rw [← hq]; exact (me_ok me).1)
    have M2 := Aside0.mk (show okn mq by rw [← hq]; exact (me_ok me).2)
    clear hq hltb
    obtain ⟨F, hF⟩ : ∃ F, rfree f mq a = F := ⟨_, rfl⟩
    obtain ⟨H, T, D, nx, h1, h2, h3, h4, h5, h6, h7, h8, h9, h10, h11, h12, h13, h14, h15⟩ := take_pack PF.out mq M1.out a hnf hna hF
    have FF := Aside0.mk hF
    have EH := Aside0.mk h1
    have LH := Aside0.mk h2
    have GH := Aside0.mk h4
    have FR := Aside0.mk h5
    have ET := Aside0.mk h6
    have LT := Aside0.mk h7
    have NX := Aside0.mk h9
    have LN := Aside0.mk h10
    have GT := Aside0.mk h11
    have ED := Aside0.mk h12
    have SD := Aside0.mk h13
    have GD := Aside0.mk h14
    have GN := Aside0.mk h15
    have RA := Aside0.mk (Kd.C_below RA0.out X2.out)
    clear h1 h2 h3 h4 h5 h6 h7 h8 h9 h10 h11 h12 h13 h14 h15 hF
    go_upto_region 12 with (first
      | (go_at_call 14; refine (holds_calls RF.out CF.out hnf PF.out IF.out EH.out).mono ?_; rintro e w3 ⟨s, rfl, hs0, hm, hb⟩; have H3 := Aside0.mk hm; have B3 := Aside0.mk hb; clear hb hm hs0)
      | (go_at_call 15; refine (RFree_as (Kd.C_below RA.out B3.out) CA.out (by omega) (Kd.C_below RF.out B3.out) CF.out (by omega) mq FF.out).mono ?_; rintro e w4 ⟨rfl, hb⟩; have B4 := Aside0.mk (B3.out.trans (hb.mono B3.out.size)); have H4 := Aside0.mk (IsMbelow H3.out H3.out.lt hb); clear hb)
      | (go_at_call 16; refine (Take_as (Or.inr ⟨_, rfl, H4.out⟩) LH.out (Kd.C_below RA.out B4.out) (by omega) IA.out mq M2.out FR.out ET.out).mono ?_; rintro e w5 ⟨s2, rfl, hs0, hm, hb⟩; have T5 := Aside0.mk hm; have B5 := Aside0.mk (B4.out.trans (hb.mono B4.out.size)); have H5 := Aside0.mk (IsMbelow H4.out H4.out.lt hb); clear hb hm hs0)
      | (go_at_call 17; refine (Free_as (Or.inr ⟨_, rfl, H5.out⟩) (Kd.C_below RA.out B5.out) (by omega) IA.out mq FR.out).mono ?_; rintro e w6 ⟨rfl, hb⟩; have B6 := Aside0.mk (B5.out.trans (hb.mono B5.out.size)); have H6 := Aside0.mk (IsMbelow H5.out H5.out.lt hb); have T6 := Aside0.mk (IsMbelow T5.out T5.out.lt hb); clear hb)
      | (go_at_call 18; refine (same_calls H6.out (Kd.C_below RF.out B6.out) CF.out (by omega) (fun y hy => (IF.out y hy).1) (Kd.C_below RA.out B6.out) (by omega) IA.out GH.out).mono ?_; rintro e w7 ⟨rfl, hb⟩; have B7 := Aside0.mk (B6.out.trans (hb.mono B6.out.size)); have T7 := Aside0.mk (IsMbelow T6.out T6.out.lt hb); clear hb))
    clear H3 H4 H5 H6 B3 B4 B5 B6 T5 T6 GH FR EH LH ET FF
    have IN := Aside0.mk (next_ok IF.out IA.out NX.out)
    have X7 := Aside0.mk (X2.out.trans (B7.out.mono X2.out.size))
    cases F with
    | false =>
      have hnx := NX.out
      rw [if_neg (by decide)] at hnx
      have hnx' := hnx.symm
      clear hnx
      subst hnx'
      have RN := Aside0.mk (Kd.C_below RF.out B7.out)
      have CN := CF
      have RAZ := Aside0.mk (Kd.C_below RA.out B7.out)
      have TZ := T7
      have XZ := X7
      clear B7 T7 X7 RA
      have hnl := LN.out
      go_wp2_with (first
        | (go_at_call 18; refine (same_calls TZ.out RN.out CN.out (by have := LN.out; omega) IN.out RAZ.out (by omega) IA.out GT.out).mono ?_; rintro e w10 ⟨rfl, hb⟩; have BA := Aside0.mk hb; have TA := Aside0.mk (IsMbelow TZ.out TZ.out.lt hb); clear hb)
        | (go_at_call 19; refine (Drop_as (Or.inr ⟨_, rfl, TA.out⟩) LT.out mq ED.out).mono ?_; rintro e w11 ⟨sd, rfl, hs0, hm, hb⟩; have DA := Aside0.mk hm; have TB := Aside0.mk (IsMbelow TA.out TA.out.lt hb); have BB := Aside0.mk (BA.out.trans (hb.mono BA.out.size)); clear hb hm hs0)
        | (at_range; refine wpList_range_own _ rfl _ 42 rfl 3 3 mtHolds.keyed mtHolds.ht _ _ _ _ rfl DA.out ?_; intro w12 hrg0 hg0 hs0))
      obtain ⟨r, hrr⟩ : ∃ r, w11.heap.size = r := ⟨_, rfl⟩
      rw [hrr] at hrg0 ⊢
      go_frame
      have RG := Aside0.mk hrg0
      have RR := Aside0.mk hrr
      have B9 := Aside0.mk ((Below.refl w11.heap.size w11).grown hg0 (Nat.le_refl _) (fun x hx => by cases hx))
      have RNB := Aside0.mk (Kd.C_below RN.out BB.out)
      have RAB := Aside0.mk (Kd.C_below RAZ.out BB.out)
      have XB := Aside0.mk (XZ.out.trans (BB.out.mono XZ.out.size))
      clear hrg0 hg0 hs0 hrr BA BB TA TZ RN RAZ XZ
      go_loopw [] (fun wr => ∃ (left : Lit → Bool) (cnt : Nat), RangeI wr sd r D.length D left cnt ∧ Below w11.heap.size w11 wr) (fun wr => wr.rangeLeft sd r)
      case atStart => exact ⟨_, _, RG.out, B9.out⟩
      case round =>
        obtain ⟨left, cnt, hrg, hb⟩ := hrel
        have HG := Aside0.mk hrg
        have HB := Aside0.mk hb
        clear hrg hb
        go_wp2_with (first
          | (at_next; refine wpList_next_ranges_ii _ rfl _ rfl 3 3 .i64 .i64 mtHolds.keyed mtHolds.hk Try.underlying3 _ r _ _ _ _ rfl HG.out ?_ ?_))
        · intro hc0 hl0
          clear hc0 hl0
          have DB := Aside0.mk (IsMbelow DA.out DA.out.lt HB.out)
          clear HG
          go_wp2
          go_loopw [16, 17] (fun x16 x17 wr => ∃ j : Nat, j ≤ nx.length ∧ x16 = .int .i64 (j : Int) ∧ Below w11.heap.size w11 wr) (fun x16 _ _ => nx.length - (intOf x16).toNat)
          case atStart => exact ⟨0, by omega, rfl, HB.out⟩
          case round =>
            clear HB DB
            obtain ⟨j, hj, rfl, hb⟩ := hrel
            have HB := Aside0.mk hb
            clear hb
            by_cases hlt : j < nx.length
            · obtain ⟨ad, hA⟩ := hd_some RNB.out hlt
              obtain ⟨ky, hky⟩ : ∃ ky, nx[j].f0 = ky := ⟨_, rfl⟩
              have HK := Aside0.mk (hky ▸ IN.out _ (List.getElem_mem hlt))
              subst hA
              have x0 := (hd_at (Kd.C_below RNB.out HB.out) hlt rfl).1
              rw [hky] at x0
              cases hq : (ofL nx ky != mq) with
              | false =>
                go_wp2_with (go_at_call 20; refine (ROf_as (Kd.C_below RNB.out HB.out) CN.out (by have := LN.out; omega) ky rfl).mono ?_; rintro e w13 ⟨rfl, hb⟩; have HB2 := Aside0.mk (HB.out.trans (hb.mono HB.out.size)); clear hb x0)
                go_roundw
                all_goals first | exact ⟨j + 1, by omega, by go_num, HB2.out⟩ | (simp [intOf]; omega)
              | true =>
                have GK := Aside0.mk (show (get D ky).getD ekI.zero = ofL nx ky from GN.out ky (by simpa using hq))
                go_wp2_with (first
                  | (go_at_call 20; refine (ROf_as (Kd.C_below RNB.out HB.out) CN.out (by have := LN.out; omega) ky rfl).mono ?_; rintro e w13 ⟨rfl, hb⟩; have HB2 := Aside0.mk (HB.out.trans (hb.mono HB.out.size)); clear hb x0; have x0 := (hd_at (Kd.C_below RNB.out HB2.out) hlt rfl).1; rw [hky] at x0)
                  | (at_lookup; refine gate_guard (by rfl) ?_; dsimp only; refine wp_look (x := ekI) mtHolds rfl _ _ rfl rfl (IsMbelow DA.out DA.out.lt HB2.out) ky rfl HK.out ?_; rw [GK.out, ekI_val]))
                go_roundw
                all_goals first | exact ⟨j + 1, by omega, by go_num, HB2.out⟩ | (simp [intOf]; omega)
            · go_wp2_with (go_at_call 18; refine (same_calls (IsMbelow TB.out TB.out.lt HB.out) (Kd.C_below RNB.out HB.out) CN.out (by have := LN.out; omega) IN.out (Kd.C_below RAB.out HB.out) (by omega) IA.out GT.out).mono ?_; rintro e w14 ⟨rfl, hb⟩; have HB3 := Aside0.mk (HB.out.trans (hb.mono HB.out.size)); clear hb)
              go_ret
              exact ⟨rfl, XB.out.trans (HB3.out.mono XB.out.size)⟩
        · intro x c w12 cnt2 hwx hwc hlx hat hrg2 hlt hg2 hs2 hen
          have hget := range_getI hat
          have hb2 : Below w11.heap.size w11 w12 := HB.out.grown hg2 HB.out.size (fun x hx => by cases hx; rw [RR.out]; exact Nat.le_refl _)
          have B2 := Aside0.mk hb2
          have R2 := Aside0.mk hrg2
          have LE := Aside0.mk hlt
          have OX := Aside0.mk (GD.out x c hget).2
          have hcm : (c == mq) = false := by simpa using (GD.out x c hget).1
          clear hget hb2 hlt hlx hat hrg2 hg2 hs2 hwx hwc
          go_wp2_with (go_at_call 20; refine (ROf_as (Kd.C_below RNB.out B2.out) CN.out (by have := LN.out; omega) x OX.out).mono ?_; rintro e w13 ⟨rfl, hb⟩; have R3 := Aside0.mk (World.ranges.kept R2.out (grown_of_below hb) (by simp) (by simp)); have B3 := Aside0.mk (B2.out.trans (hb.mono B2.out.size)); clear hb)
          go_roundw
          case rel => exact ⟨_, cnt2, R3.out, B3.out⟩
          case measure => rw [R3.out.left_eq, HG.out.left_eq]; exact LE.out
    | true =>
      have hnx := NX.out
      rw [if_pos rfl] at hnx
      have EN := Aside0.mk hnx
      clear hnx
      have hu := Try.underlying38
      have RF7 := Aside0.mk (Kd.C_below RF.out B7.out)
      have RA7 := Aside0.mk (Kd.C_below RA.out B7.out)
      clear RF RA B7
      go_wp2_with (first
        | ((with_reducible refine gate_builtin (b := .append) (xs := #[.const (.slice none 0 0), .tmp 67]) rfl ?_); at_builtin; refine Kd.R_append_rows k50 (w0 := w7) w7.heap.size rfl (.const (.slice none 0 0)) (.tmp 67) 38 50 (.agg #[(.int .i64 0), (.int .i64 0)]) 16 rfl Try.underlying38 info50 rfl (by decide) (by omega) (.slice none 0 0) [] f A2 f.length c2 (fun _ => True) (fun _ => False) rfl rfl (Kd.R_nil _ _ _ _ _) RF7.out (fun x cs h => by rw [k50_open h]; exact k50_mkM _ _ _ x) (fun _ h => h.elim) (fun _ _ => trivial) (Below.refl _ _) (Nat.le_refl _) (by simp; omega) ?_; intro v9 w9 ho9 hb9 hg9 hat9; have HO9 := Aside0.mk ho9; have HB9 := Aside0.mk hb9; clear ho9 hb9 hg9 hat9))
      go_loopw [11, 12] (fun v11 v12 wr => ∃ j : Nat, j ≤ a.length ∧ v12 = .int .i64 (j : Int) ∧ Aside0 (Kd.R k50 50 wr w7.heap.size (fun _ => True) v11 (f ++ mine mq (a.take j))) ∧ Aside0 (Below w7.heap.size w7 wr)) (fun _ v12 _ => a.length - (intOf v12).toNat)
      case atStart => exact ⟨0, by omega, rfl, ⟨by simpa [mine] using HO9.out⟩, HB9⟩
      case round =>
        obtain ⟨j, hj, rfl, HO, HB⟩ := hrel
        by_cases hlt : j < a.length
        · obtain ⟨ad, ky, hA, hk, hx⟩ := elem_at (Kd.C_below RA7.out HB.out) j hlt
          have HN := Aside0.mk (take_snoc hk)
          subst hA
          clear hk
          go_wp2_with (first
            | ((with_reducible refine gate_builtin (b := .append) (xs := #[.tmp 75, .tmp 82]) rfl ?_); at_builtin; refine Kd.R_append k50 (w0 := w7) w7.heap.size rfl (.tmp 75) (.tmp 82) 38 50 (.agg #[(.int .i64 0), (.int .i64 0)]) 16 rfl Try.underlying38 info50 rfl (by decide) (by omega) u11 (f ++ mine mq (a.take j)) (⟨ky, mq⟩ : Hd) [.int .i64 ky, .int .i64 mq] (fun _ => True) (fun _ => False) rfl rfl ?aP (fun _ hk => hk.elim) ?aF ?aO ?aB ?aS ?aL ?_; (case aP => exact k50_mkM _ _ _ (⟨ky, mq⟩ : Hd)); (case aB => exact HB.out); (case aF => exact (fun _ _ => trivial)); (case aO => exact HO.out); (case aS => exact below_size HB.out); (case aL => simp [mine]; omega); intro v83 w10 ho hb hg hat; have HO2 := Aside0.mk ho; have HB2 := Aside0.mk hb; clear ho hb hg hat))
          go_roundw
          all_goals first | exact ⟨j + 1, by omega, by go_num, ⟨by rw [HN.out, mine_snoc, ← List.append_assoc]; exact HO2.out⟩, HB2⟩ | (simp [intOf]; omega)
        · have hj' : j = a.length := by omega
          have ho := HO.out
          rw [hj', List.take_length, EN.out] at ho
          obtain ⟨C, e, hv, he, hC⟩ := Kd.R_reads ho
          have RN := Aside0.mk hC
          have CN := Aside0.mk he
          have RAZ := Aside0.mk (Kd.C_below RA7.out HB.out)
          have TZ := Aside0.mk (IsMbelow T7.out T7.out.lt HB.out)
          have XZ := Aside0.mk (X7.out.trans (HB.out.mono X7.out.size))
          subst hv
          clear ho he hC hj' hj HO HB HO9 HB9 T7 X7 hu EN RF7 RA7
          have hnl := LN.out
          go_wp2_with (first
            | (go_at_call 18; refine (same_calls TZ.out RN.out CN.out (by have := LN.out; omega) IN.out RAZ.out (by omega) IA.out GT.out).mono ?_; rintro e w10 ⟨rfl, hb⟩; have BA := Aside0.mk hb; have TA := Aside0.mk (IsMbelow TZ.out TZ.out.lt hb); clear hb)
            | (go_at_call 19; refine (Drop_as (Or.inr ⟨_, rfl, TA.out⟩) LT.out mq ED.out).mono ?_; rintro e w11 ⟨sd, rfl, hs0, hm, hb⟩; have DA := Aside0.mk hm; have TB := Aside0.mk (IsMbelow TA.out TA.out.lt hb); have BB := Aside0.mk (BA.out.trans (hb.mono BA.out.size)); clear hb hm hs0)
            | (at_range; refine wpList_range_own _ rfl _ 42 rfl 3 3 mtHolds.keyed mtHolds.ht _ _ _ _ rfl DA.out ?_; intro w12 hrg0 hg0 hs0))
          obtain ⟨r, hrr⟩ : ∃ r, w11.heap.size = r := ⟨_, rfl⟩
          rw [hrr] at hrg0 ⊢
          go_frame
          have RG := Aside0.mk hrg0
          have RR := Aside0.mk hrr
          have B9 := Aside0.mk ((Below.refl w11.heap.size w11).grown hg0 (Nat.le_refl _) (fun x hx => by cases hx))
          have RNB := Aside0.mk (Kd.C_below RN.out BB.out)
          have RAB := Aside0.mk (Kd.C_below RAZ.out BB.out)
          have XB := Aside0.mk (XZ.out.trans (BB.out.mono XZ.out.size))
          clear hrg0 hg0 hs0 hrr BA BB TA TZ RN RAZ XZ
          go_loopw [] (fun wr => ∃ (left : Lit → Bool) (cnt : Nat), RangeI wr sd r D.length D left cnt ∧ Below w11.heap.size w11 wr) (fun wr => wr.rangeLeft sd r)
          case atStart => exact ⟨_, _, RG.out, B9.out⟩
          case round =>
            obtain ⟨left, cnt, hrg, hb⟩ := hrel
            have HG := Aside0.mk hrg
            have HB := Aside0.mk hb
            clear hrg hb
            go_wp2_with (first
              | (at_next; refine wpList_next_ranges_ii _ rfl _ rfl 3 3 .i64 .i64 mtHolds.keyed mtHolds.hk Try.underlying3 _ r _ _ _ _ rfl HG.out ?_ ?_))
            · intro hc0 hl0
              clear hc0 hl0
              have DB := Aside0.mk (IsMbelow DA.out DA.out.lt HB.out)
              clear HG
              go_wp2
              go_loopw [16, 17] (fun x16 x17 wr => ∃ j : Nat, j ≤ nx.length ∧ x16 = .int .i64 (j : Int) ∧ Below w11.heap.size w11 wr) (fun x16 _ _ => nx.length - (intOf x16).toNat)
              case atStart => exact ⟨0, by omega, rfl, HB.out⟩
              case round =>
                clear HB DB
                obtain ⟨j, hj, rfl, hb⟩ := hrel
                have HB := Aside0.mk hb
                clear hb
                by_cases hlt : j < nx.length
                · obtain ⟨ad, hA⟩ := hd_some RNB.out hlt
                  obtain ⟨ky, hky⟩ : ∃ ky, nx[j].f0 = ky := ⟨_, rfl⟩
                  have HK := Aside0.mk (hky ▸ IN.out _ (List.getElem_mem hlt))
                  subst hA
                  have x0 := (hd_at (Kd.C_below RNB.out HB.out) hlt rfl).1
                  rw [hky] at x0
                  cases hq : (ofL nx ky != mq) with
                  | false =>
                    go_wp2_with (go_at_call 20; refine (ROf_as (Kd.C_below RNB.out HB.out) CN.out (by have := LN.out; omega) ky rfl).mono ?_; rintro e w13 ⟨rfl, hb⟩; have HB2 := Aside0.mk (HB.out.trans (hb.mono HB.out.size)); clear hb x0)
                    go_roundw
                    all_goals first | exact ⟨j + 1, by omega, by go_num, HB2.out⟩ | (simp [intOf]; omega)
                  | true =>
                    have GK := Aside0.mk (show (get D ky).getD ekI.zero = ofL nx ky from GN.out ky (by simpa using hq))
                    go_wp2_with (first
                      | (go_at_call 20; refine (ROf_as (Kd.C_below RNB.out HB.out) CN.out (by have := LN.out; omega) ky rfl).mono ?_; rintro e w13 ⟨rfl, hb⟩; have HB2 := Aside0.mk (HB.out.trans (hb.mono HB.out.size)); clear hb x0; have x0 := (hd_at (Kd.C_below RNB.out HB2.out) hlt rfl).1; rw [hky] at x0)
                      | (at_lookup; refine gate_guard (by rfl) ?_; dsimp only; refine wp_look (x := ekI) mtHolds rfl _ _ rfl rfl (IsMbelow DA.out DA.out.lt HB2.out) ky rfl HK.out ?_; rw [GK.out, ekI_val]))
                    go_roundw
                    all_goals first | exact ⟨j + 1, by omega, by go_num, HB2.out⟩ | (simp [intOf]; omega)
                · go_wp2_with (go_at_call 18; refine (same_calls (IsMbelow TB.out TB.out.lt HB.out) (Kd.C_below RNB.out HB.out) CN.out (by have := LN.out; omega) IN.out (Kd.C_below RAB.out HB.out) (by omega) IA.out GT.out).mono ?_; rintro e w14 ⟨rfl, hb⟩; have HB3 := Aside0.mk (HB.out.trans (hb.mono HB.out.size)); clear hb)
                  go_ret
                  exact ⟨rfl, XB.out.trans (HB3.out.mono XB.out.size)⟩
            · intro x c w12 cnt2 hwx hwc hlx hat hrg2 hlt hg2 hs2 hen
              have hget := range_getI hat
              have hb2 : Below w11.heap.size w11 w12 := HB.out.grown hg2 HB.out.size (fun x hx => by cases hx; rw [RR.out]; exact Nat.le_refl _)
              have B2 := Aside0.mk hb2
              have R2 := Aside0.mk hrg2
              have LE := Aside0.mk hlt
              have OX := Aside0.mk (GD.out x c hget).2
              have hcm : (c == mq) = false := by simpa using (GD.out x c hget).1
              clear hget hb2 hlt hlx hat hrg2 hg2 hs2 hwx hwc
              go_wp2_with (go_at_call 20; refine (ROf_as (Kd.C_below RNB.out B2.out) CN.out (by have := LN.out; omega) x OX.out).mono ?_; rintro e w13 ⟨rfl, hb⟩; have R3 := Aside0.mk (World.ranges.kept R2.out (grown_of_below hb) (by simp) (by simp)); have B3 := Aside0.mk (B2.out.trans (hb.mono B2.out.size)); clear hb)
              go_roundw
              case rel => exact ⟨_, cnt2, R3.out, B3.out⟩
              case measure => rw [R3.out.left_eq, HG.out.left_eq]; exact LE.out
  · have hltb : decide (me < 1) = false := decide_eq_false hlt
    have M1 := Aside0.mk (show 1 ≤ me by omega)
    clear hlt hmin1 ha1
    go_upto_region 7 with (fail)
    clear hltb
    have M2 := ME
    obtain ⟨mq, rfl⟩ : ∃ mq, mq = me := ⟨_, rfl⟩
    obtain ⟨F, hF⟩ : ∃ F, rfree f mq a = F := ⟨_, rfl⟩
    obtain ⟨H, T, D, nx, h1, h2, h3, h4, h5, h6, h7, h8, h9, h10, h11, h12, h13, h14, h15⟩ := take_pack PF.out mq M1.out a hnf hna hF
    have FF := Aside0.mk hF
    have EH := Aside0.mk h1
    have LH := Aside0.mk h2
    have GH := Aside0.mk h4
    have FR := Aside0.mk h5
    have ET := Aside0.mk h6
    have LT := Aside0.mk h7
    have NX := Aside0.mk h9
    have LN := Aside0.mk h10
    have GT := Aside0.mk h11
    have ED := Aside0.mk h12
    have SD := Aside0.mk h13
    have GD := Aside0.mk h14
    have GN := Aside0.mk h15
    have RA := Aside0.mk (Kd.C_below RA0.out X2.out)
    clear h1 h2 h3 h4 h5 h6 h7 h8 h9 h10 h11 h12 h13 h14 h15 hF
    go_upto_region 12 with (first
      | (go_at_call 14; refine (holds_calls RF.out CF.out hnf PF.out IF.out EH.out).mono ?_; rintro e w3 ⟨s, rfl, hs0, hm, hb⟩; have H3 := Aside0.mk hm; have B3 := Aside0.mk hb; clear hb hm hs0)
      | (go_at_call 15; refine (RFree_as (Kd.C_below RA.out B3.out) CA.out (by omega) (Kd.C_below RF.out B3.out) CF.out (by omega) mq FF.out).mono ?_; rintro e w4 ⟨rfl, hb⟩; have B4 := Aside0.mk (B3.out.trans (hb.mono B3.out.size)); have H4 := Aside0.mk (IsMbelow H3.out H3.out.lt hb); clear hb)
      | (go_at_call 16; refine (Take_as (Or.inr ⟨_, rfl, H4.out⟩) LH.out (Kd.C_below RA.out B4.out) (by omega) IA.out mq M2.out FR.out ET.out).mono ?_; rintro e w5 ⟨s2, rfl, hs0, hm, hb⟩; have T5 := Aside0.mk hm; have B5 := Aside0.mk (B4.out.trans (hb.mono B4.out.size)); have H5 := Aside0.mk (IsMbelow H4.out H4.out.lt hb); clear hb hm hs0)
      | (go_at_call 17; refine (Free_as (Or.inr ⟨_, rfl, H5.out⟩) (Kd.C_below RA.out B5.out) (by omega) IA.out mq FR.out).mono ?_; rintro e w6 ⟨rfl, hb⟩; have B6 := Aside0.mk (B5.out.trans (hb.mono B5.out.size)); have H6 := Aside0.mk (IsMbelow H5.out H5.out.lt hb); have T6 := Aside0.mk (IsMbelow T5.out T5.out.lt hb); clear hb)
      | (go_at_call 18; refine (same_calls H6.out (Kd.C_below RF.out B6.out) CF.out (by omega) (fun y hy => (IF.out y hy).1) (Kd.C_below RA.out B6.out) (by omega) IA.out GH.out).mono ?_; rintro e w7 ⟨rfl, hb⟩; have B7 := Aside0.mk (B6.out.trans (hb.mono B6.out.size)); have T7 := Aside0.mk (IsMbelow T6.out T6.out.lt hb); clear hb))
    clear H3 H4 H5 H6 B3 B4 B5 B6 T5 T6 GH FR EH LH ET FF
    have IN := Aside0.mk (next_ok IF.out IA.out NX.out)
    have X7 := Aside0.mk (X2.out.trans (B7.out.mono X2.out.size))
    cases F with
    | false =>
      have hnx := NX.out
      rw [if_neg (by decide)] at hnx
      have hnx' := hnx.symm
      clear hnx
      subst hnx'
      have RN := Aside0.mk (Kd.C_below RF.out B7.out)
      have CN := CF
      have RAZ := Aside0.mk (Kd.C_below RA.out B7.out)
      have TZ := T7
      have XZ := X7
      clear B7 T7 X7 RA
      have hnl := LN.out
      go_wp2_with (first
        | (go_at_call 18; refine (same_calls TZ.out RN.out CN.out (by have := LN.out; omega) IN.out RAZ.out (by omega) IA.out GT.out).mono ?_; rintro e w10 ⟨rfl, hb⟩; have BA := Aside0.mk hb; have TA := Aside0.mk (IsMbelow TZ.out TZ.out.lt hb); clear hb)
        | (go_at_call 19; refine (Drop_as (Or.inr ⟨_, rfl, TA.out⟩) LT.out mq ED.out).mono ?_; rintro e w11 ⟨sd, rfl, hs0, hm, hb⟩; have DA := Aside0.mk hm; have TB := Aside0.mk (IsMbelow TA.out TA.out.lt hb); have BB := Aside0.mk (BA.out.trans (hb.mono BA.out.size)); clear hb hm hs0)
        | (at_range; refine wpList_range_own _ rfl _ 42 rfl 3 3 mtHolds.keyed mtHolds.ht _ _ _ _ rfl DA.out ?_; intro w12 hrg0 hg0 hs0))
      obtain ⟨r, hrr⟩ : ∃ r, w11.heap.size = r := ⟨_, rfl⟩
      rw [hrr] at hrg0 ⊢
      go_frame
      have RG := Aside0.mk hrg0
      have RR := Aside0.mk hrr
      have B9 := Aside0.mk ((Below.refl w11.heap.size w11).grown hg0 (Nat.le_refl _) (fun x hx => by cases hx))
      have RNB := Aside0.mk (Kd.C_below RN.out BB.out)
      have RAB := Aside0.mk (Kd.C_below RAZ.out BB.out)
      have XB := Aside0.mk (XZ.out.trans (BB.out.mono XZ.out.size))
      clear hrg0 hg0 hs0 hrr BA BB TA TZ RN RAZ XZ
      go_loopw [] (fun wr => ∃ (left : Lit → Bool) (cnt : Nat), RangeI wr sd r D.length D left cnt ∧ Below w11.heap.size w11 wr) (fun wr => wr.rangeLeft sd r)
      case atStart => exact ⟨_, _, RG.out, B9.out⟩
      case round =>
        obtain ⟨left, cnt, hrg, hb⟩ := hrel
        have HG := Aside0.mk hrg
        have HB := Aside0.mk hb
        clear hrg hb
        go_wp2_with (first
          | (at_next; refine wpList_next_ranges_ii _ rfl _ rfl 3 3 .i64 .i64 mtHolds.keyed mtHolds.hk Try.underlying3 _ r _ _ _ _ rfl HG.out ?_ ?_))
        · intro hc0 hl0
          clear hc0 hl0
          have DB := Aside0.mk (IsMbelow DA.out DA.out.lt HB.out)
          clear HG
          go_wp2
          go_loopw [16, 17] (fun x16 x17 wr => ∃ j : Nat, j ≤ nx.length ∧ x16 = .int .i64 (j : Int) ∧ Below w11.heap.size w11 wr) (fun x16 _ _ => nx.length - (intOf x16).toNat)
          case atStart => exact ⟨0, by omega, rfl, HB.out⟩
          case round =>
            clear HB DB
            obtain ⟨j, hj, rfl, hb⟩ := hrel
            have HB := Aside0.mk hb
            clear hb
            by_cases hlt : j < nx.length
            · obtain ⟨ad, hA⟩ := hd_some RNB.out hlt
              obtain ⟨ky, hky⟩ : ∃ ky, nx[j].f0 = ky := ⟨_, rfl⟩
              have HK := Aside0.mk (hky ▸ IN.out _ (List.getElem_mem hlt))
              subst hA
              have x0 := (hd_at (Kd.C_below RNB.out HB.out) hlt rfl).1
              rw [hky] at x0
              cases hq : (ofL nx ky != mq) with
              | false =>
                go_wp2_with (go_at_call 20; refine (ROf_as (Kd.C_below RNB.out HB.out) CN.out (by have := LN.out; omega) ky rfl).mono ?_; rintro e w13 ⟨rfl, hb⟩; have HB2 := Aside0.mk (HB.out.trans (hb.mono HB.out.size)); clear hb x0)
                go_roundw
                all_goals first | exact ⟨j + 1, by omega, by go_num, HB2.out⟩ | (simp [intOf]; omega)
              | true =>
                have GK := Aside0.mk (show (get D ky).getD ekI.zero = ofL nx ky from GN.out ky (by simpa using hq))
                go_wp2_with (first
                  | (go_at_call 20; refine (ROf_as (Kd.C_below RNB.out HB.out) CN.out (by have := LN.out; omega) ky rfl).mono ?_; rintro e w13 ⟨rfl, hb⟩; have HB2 := Aside0.mk (HB.out.trans (hb.mono HB.out.size)); clear hb x0; have x0 := (hd_at (Kd.C_below RNB.out HB2.out) hlt rfl).1; rw [hky] at x0)
                  | (at_lookup; refine gate_guard (by rfl) ?_; dsimp only; refine wp_look (x := ekI) mtHolds rfl _ _ rfl rfl (IsMbelow DA.out DA.out.lt HB2.out) ky rfl HK.out ?_; rw [GK.out, ekI_val]))
                go_roundw
                all_goals first | exact ⟨j + 1, by omega, by go_num, HB2.out⟩ | (simp [intOf]; omega)
            · go_wp2_with (go_at_call 18; refine (same_calls (IsMbelow TB.out TB.out.lt HB.out) (Kd.C_below RNB.out HB.out) CN.out (by have := LN.out; omega) IN.out (Kd.C_below RAB.out HB.out) (by omega) IA.out GT.out).mono ?_; rintro e w14 ⟨rfl, hb⟩; have HB3 := Aside0.mk (HB.out.trans (hb.mono HB.out.size)); clear hb)
              go_ret
              exact ⟨rfl, XB.out.trans (HB3.out.mono XB.out.size)⟩
        · intro x c w12 cnt2 hwx hwc hlx hat hrg2 hlt hg2 hs2 hen
          have hget := range_getI hat
          have hb2 : Below w11.heap.size w11 w12 := HB.out.grown hg2 HB.out.size (fun x hx => by cases hx; rw [RR.out]; exact Nat.le_refl _)
          have B2 := Aside0.mk hb2
          have R2 := Aside0.mk hrg2
          have LE := Aside0.mk hlt
          have OX := Aside0.mk (GD.out x c hget).2
          have hcm : (c == mq) = false := by simpa using (GD.out x c hget).1
          clear hget hb2 hlt hlx hat hrg2 hg2 hs2 hwx hwc
          go_wp2_with (go_at_call 20; refine (ROf_as (Kd.C_below RNB.out B2.out) CN.out (by have := LN.out; omega) x OX.out).mono ?_; rintro e w13 ⟨rfl, hb⟩; have R3 := Aside0.mk (World.ranges.kept R2.out (grown_of_below hb) (by simp) (by simp)); have B3 := Aside0.mk (B2.out.trans (hb.mono B2.out.size)); clear hb)
          go_roundw
          case rel => exact ⟨_, cnt2, R3.out, B3.out⟩
          case measure => rw [R3.out.left_eq, HG.out.left_eq]; exact LE.out
    | true =>
      have hnx := NX.out
      rw [if_pos rfl] at hnx
      have EN := Aside0.mk hnx
      clear hnx
      have hu := Try.underlying38
      have RF7 := Aside0.mk (Kd.C_below RF.out B7.out)
      have RA7 := Aside0.mk (Kd.C_below RA.out B7.out)
      clear RF RA B7
      go_wp2_with (first
        | ((with_reducible refine gate_builtin (b := .append) (xs := #[.const (.slice none 0 0), .tmp 67]) rfl ?_); at_builtin; refine Kd.R_append_rows k50 (w0 := w7) w7.heap.size rfl (.const (.slice none 0 0)) (.tmp 67) 38 50 (.agg #[(.int .i64 0), (.int .i64 0)]) 16 rfl Try.underlying38 info50 rfl (by decide) (by omega) (.slice none 0 0) [] f A2 f.length c2 (fun _ => True) (fun _ => False) rfl rfl (Kd.R_nil _ _ _ _ _) RF7.out (fun x cs h => by rw [k50_open h]; exact k50_mkM _ _ _ x) (fun _ h => h.elim) (fun _ _ => trivial) (Below.refl _ _) (Nat.le_refl _) (by simp; omega) ?_; intro v9 w9 ho9 hb9 hg9 hat9; have HO9 := Aside0.mk ho9; have HB9 := Aside0.mk hb9; clear ho9 hb9 hg9 hat9))
      go_loopw [11, 12] (fun v11 v12 wr => ∃ j : Nat, j ≤ a.length ∧ v12 = .int .i64 (j : Int) ∧ Aside0 (Kd.R k50 50 wr w7.heap.size (fun _ => True) v11 (f ++ mine mq (a.take j))) ∧ Aside0 (Below w7.heap.size w7 wr)) (fun _ v12 _ => a.length - (intOf v12).toNat)
      case atStart => exact ⟨0, by omega, rfl, ⟨by simpa [mine] using HO9.out⟩, HB9⟩
      case round =>
        obtain ⟨j, hj, rfl, HO, HB⟩ := hrel
        by_cases hlt : j < a.length
        · obtain ⟨ad, ky, hA, hk, hx⟩ := elem_at (Kd.C_below RA7.out HB.out) j hlt
          have HN := Aside0.mk (take_snoc hk)
          subst hA
          clear hk
          go_wp2_with (first
            | ((with_reducible refine gate_builtin (b := .append) (xs := #[.tmp 75, .tmp 82]) rfl ?_); at_builtin; refine Kd.R_append k50 (w0 := w7) w7.heap.size rfl (.tmp 75) (.tmp 82) 38 50 (.agg #[(.int .i64 0), (.int .i64 0)]) 16 rfl Try.underlying38 info50 rfl (by decide) (by omega) u11 (f ++ mine mq (a.take j)) (⟨ky, mq⟩ : Hd) [.int .i64 ky, .int .i64 mq] (fun _ => True) (fun _ => False) rfl rfl ?aP (fun _ hk => hk.elim) ?aF ?aO ?aB ?aS ?aL ?_; (case aP => exact k50_mkM _ _ _ (⟨ky, mq⟩ : Hd)); (case aB => exact HB.out); (case aF => exact (fun _ _ => trivial)); (case aO => exact HO.out); (case aS => exact below_size HB.out); (case aL => simp [mine]; omega); intro v83 w10 ho hb hg hat; have HO2 := Aside0.mk ho; have HB2 := Aside0.mk hb; clear ho hb hg hat))
          go_roundw
          all_goals first | exact ⟨j + 1, by omega, by go_num, ⟨by rw [HN.out, mine_snoc, ← List.append_assoc]; exact HO2.out⟩, HB2⟩ | (simp [intOf]; omega)
        · have hj' : j = a.length := by omega
          have ho := HO.out
          rw [hj', List.take_length, EN.out] at ho
          obtain ⟨C, e, hv, he, hC⟩ := Kd.R_reads ho
          have RN := Aside0.mk hC
          have CN := Aside0.mk he
          have RAZ := Aside0.mk (Kd.C_below RA7.out HB.out)
          have TZ := Aside0.mk (IsMbelow T7.out T7.out.lt HB.out)
          have XZ := Aside0.mk (X7.out.trans (HB.out.mono X7.out.size))
          subst hv
          clear ho he hC hj' hj HO HB HO9 HB9 T7 X7 hu EN RF7 RA7
          have hnl := LN.out
          go_wp2_with (first
            | (go_at_call 18; refine (same_calls TZ.out RN.out CN.out (by have := LN.out; omega) IN.out RAZ.out (by omega) IA.out GT.out).mono ?_; rintro e w10 ⟨rfl, hb⟩; have BA := Aside0.mk hb; have TA := Aside0.mk (IsMbelow TZ.out TZ.out.lt hb); clear hb)
            | (go_at_call 19; refine (Drop_as (Or.inr ⟨_, rfl, TA.out⟩) LT.out mq ED.out).mono ?_; rintro e w11 ⟨sd, rfl, hs0, hm, hb⟩; have DA := Aside0.mk hm; have TB := Aside0.mk (IsMbelow TA.out TA.out.lt hb); have BB := Aside0.mk (BA.out.trans (hb.mono BA.out.size)); clear hb hm hs0)
            | (at_range; refine wpList_range_own _ rfl _ 42 rfl 3 3 mtHolds.keyed mtHolds.ht _ _ _ _ rfl DA.out ?_; intro w12 hrg0 hg0 hs0))
          obtain ⟨r, hrr⟩ : ∃ r, w11.heap.size = r := ⟨_, rfl⟩
          rw [hrr] at hrg0 ⊢
          go_frame
          have RG := Aside0.mk hrg0
          have RR := Aside0.mk hrr
          have B9 := Aside0.mk ((Below.refl w11.heap.size w11).grown hg0 (Nat.le_refl _) (fun x hx => by cases hx))
          have RNB := Aside0.mk (Kd.C_below RN.out BB.out)
          have RAB := Aside0.mk (Kd.C_below RAZ.out BB.out)
          have XB := Aside0.mk (XZ.out.trans (BB.out.mono XZ.out.size))
          clear hrg0 hg0 hs0 hrr BA BB TA TZ RN RAZ XZ
          go_loopw [] (fun wr => ∃ (left : Lit → Bool) (cnt : Nat), RangeI wr sd r D.length D left cnt ∧ Below w11.heap.size w11 wr) (fun wr => wr.rangeLeft sd r)
          case atStart => exact ⟨_, _, RG.out, B9.out⟩
          case round =>
            obtain ⟨left, cnt, hrg, hb⟩ := hrel
            have HG := Aside0.mk hrg
            have HB := Aside0.mk hb
            clear hrg hb
            go_wp2_with (first
              | (at_next; refine wpList_next_ranges_ii _ rfl _ rfl 3 3 .i64 .i64 mtHolds.keyed mtHolds.hk Try.underlying3 _ r _ _ _ _ rfl HG.out ?_ ?_))
            · intro hc0 hl0
              clear hc0 hl0
              have DB := Aside0.mk (IsMbelow DA.out DA.out.lt HB.out)
              clear HG
              go_wp2
              go_loopw [16, 17] (fun x16 x17 wr => ∃ j : Nat, j ≤ nx.length ∧ x16 = .int .i64 (j : Int) ∧ Below w11.heap.size w11 wr) (fun x16 _ _ => nx.length - (intOf x16).toNat)
              case atStart => exact ⟨0, by omega, rfl, HB.out⟩
              case round =>
                clear HB DB
                obtain ⟨j, hj, rfl, hb⟩ := hrel
                have HB := Aside0.mk hb
                clear hb
                by_cases hlt : j < nx.length
                · obtain ⟨ad, hA⟩ := hd_some RNB.out hlt
                  obtain ⟨ky, hky⟩ : ∃ ky, nx[j].f0 = ky := ⟨_, rfl⟩
                  have HK := Aside0.mk (hky ▸ IN.out _ (List.getElem_mem hlt))
                  subst hA
                  have x0 := (hd_at (Kd.C_below RNB.out HB.out) hlt rfl).1
                  rw [hky] at x0
                  cases hq : (ofL nx ky != mq) with
                  | false =>
                    go_wp2_with (go_at_call 20; refine (ROf_as (Kd.C_below RNB.out HB.out) CN.out (by have := LN.out; omega) ky rfl).mono ?_; rintro e w13 ⟨rfl, hb⟩; have HB2 := Aside0.mk (HB.out.trans (hb.mono HB.out.size)); clear hb x0)
                    go_roundw
                    all_goals first | exact ⟨j + 1, by omega, by go_num, HB2.out⟩ | (simp [intOf]; omega)
                  | true =>
                    have GK := Aside0.mk (show (get D ky).getD ekI.zero = ofL nx ky from GN.out ky (by simpa using hq))
                    go_wp2_with (first
                      | (go_at_call 20; refine (ROf_as (Kd.C_below RNB.out HB.out) CN.out (by have := LN.out; omega) ky rfl).mono ?_; rintro e w13 ⟨rfl, hb⟩; have HB2 := Aside0.mk (HB.out.trans (hb.mono HB.out.size)); clear hb x0; have x0 := (hd_at (Kd.C_below RNB.out HB2.out) hlt rfl).1; rw [hky] at x0)
                      | (at_lookup; refine gate_guard (by rfl) ?_; dsimp only; refine wp_look (x := ekI) mtHolds rfl _ _ rfl rfl (IsMbelow DA.out DA.out.lt HB2.out) ky rfl HK.out ?_; rw [GK.out, ekI_val]))
                    go_roundw
                    all_goals first | exact ⟨j + 1, by omega, by go_num, HB2.out⟩ | (simp [intOf]; omega)
                · go_wp2_with (go_at_call 18; refine (same_calls (IsMbelow TB.out TB.out.lt HB.out) (Kd.C_below RNB.out HB.out) CN.out (by have := LN.out; omega) IN.out (Kd.C_below RAB.out HB.out) (by omega) IA.out GT.out).mono ?_; rintro e w14 ⟨rfl, hb⟩; have HB3 := Aside0.mk (HB.out.trans (hb.mono HB.out.size)); clear hb)
                  go_ret
                  exact ⟨rfl, XB.out.trans (HB3.out.mono XB.out.size)⟩
            · intro x c w12 cnt2 hwx hwc hlx hat hrg2 hlt hg2 hs2 hen
              have hget := range_getI hat
              have hb2 : Below w11.heap.size w11 w12 := HB.out.grown hg2 HB.out.size (fun x hx => by cases hx; rw [RR.out]; exact Nat.le_refl _)
              have B2 := Aside0.mk hb2
              have R2 := Aside0.mk hrg2
              have LE := Aside0.mk hlt
              have OX := Aside0.mk (GD.out x c hget).2
              have hcm : (c == mq) = false := by simpa using (GD.out x c hget).1
              clear hget hb2 hlt hlx hat hrg2 hg2 hs2 hwx hwc
              go_wp2_with (go_at_call 20; refine (ROf_as (Kd.C_below RNB.out B2.out) CN.out (by have := LN.out; omega) x OX.out).mono ?_; rintro e w13 ⟨rfl, hb⟩; have R3 := Aside0.mk (World.ranges.kept R2.out (grown_of_below hb) (by simp) (by simp)); have B3 := Aside0.mk (B2.out.trans (hb.mono B2.out.size)); clear hb)
              go_roundw
              case rel => exact ⟨_, cnt2, R3.out, B3.out⟩
              case measure => rw [R3.out.left_eq, HG.out.left_eq]; exact LE.out
end Go.Proofs.Ytoakfmdfajpejaa.Sets
