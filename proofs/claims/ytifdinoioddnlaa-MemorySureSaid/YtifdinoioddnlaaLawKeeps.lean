/- A crash that keeps all leaves what was read; so does one that keeps none, where all was evicted ahead. -/
import Derived.Handy
import Derived.Test.YtifdinoioddnlaaLawC
namespace Go.Proofs.Ytifdinoioddnlaa.Mem
open Go Go.RowKit Go.Proofs.Ytifdinoioddnlaa.ML Go.Proofs.YtifdinoioddnlaaW.PrintWords Go.Proofs.YtifdinoioddnlaaW.PrintLast Go.Proofs.YtifdinoioddnlaaW.PrintMore Go.Proofs.Ytifdinoioddnlaa.Print
set_option linter.unusedVariables false
set_option linter.unusedSimpArgs false
/-- How far the evicting has come. -/
structure EvTo (S : MS) (j : Nat) (S' : MS) : Prop where
  len : S'.ws.length = S.ws.length
  cell : ∀ i : Int, 0 ≤ i → i < S.ws.length → S'.at i = if i ∈ S.keys.take j then ⟨(S.at i).now, none, none⟩ else S.at i
theorem EvTo.start (S : MS) : EvTo S 0 S := ⟨rfl, fun i h0 h1 => by simp⟩
theorem EvTo.step {S S' : MS} {j : Nat} (h : EvTo S j S') {k : Int} (hk : S.keys[j]? = some k) : EvTo S (j + 1) (S'.evict k) := by
  have hm : k ∈ S.keys := List.mem_of_getElem? hk
  obtain ⟨h0, h1, v, hv⟩ := (S.keys_mem k).1 hm
  have hl := h.len
  refine ⟨by rw [evict_len]; exact hl, fun i i0 i1 => ?_⟩
  have hck := h.cell k h0 h1
  have hci := h.cell i i0 i1
  have hmem : i ∈ S.keys.take (j + 1) ↔ i ∈ S.keys.take j ∨ i = k := by rw [List.take_add_one, hk]; simp
  unfold MS.evict
  rw [if_pos ((S'.has_iff k).2 ⟨h0, by omega⟩)]
  by_cases hin : k ∈ S.keys.take j
  · rw [if_pos hin] at hck
    rw [hck]
    simp only []
    rw [hci]
    by_cases hi : i ∈ S.keys.take j
    · rw [if_pos hi, if_pos (hmem.2 (.inl hi))]
    · rw [if_neg hi, if_neg (fun h => (hmem.1 h).elim hi (fun e => by subst e; exact hi hin))]
  · rw [if_neg hin] at hck
    rw [hck, hv]
    simp only []
    rw [MS.set_at _ _ h0 (by omega) i i0]
    by_cases hik : i = k
    · subst hik
      rw [if_pos rfl, if_pos (hmem.2 (.inr rfl))]
      simp [Cell.now, hv]
    · rw [if_neg hik, hci]
      by_cases hi : i ∈ S.keys.take j
      · rw [if_pos hi, if_pos (hmem.2 (.inl hi))]
      · rw [if_neg hi, if_neg (fun h => (hmem.1 h).elim hi hik)]
theorem EvTo.over {S S' : MS} (h : EvTo S S.keys.length S') (i : Int) (h0 : 0 ≤ i) (h1 : i < S.ws.length) : (S'.at i).loose = none ∧ (S'.at i).now = (S.at i).now := by
  have hc := h.cell i h0 h1
  rw [List.take_length] at hc
  by_cases hi : i ∈ S.keys
  · rw [if_pos hi] at hc
    rw [hc]
    exact ⟨rfl, rfl⟩
  · rw [if_neg hi] at hc
    rw [hc]
    refine ⟨?_, rfl⟩
    cases hv : (S.at i).loose with
    | none => rfl
    | some v => exact absurd ((S.keys_mem i).2 ⟨h0, h1, v, hv⟩) hi
set_option maxHeartbeats 4000000 in
set_option maxRecDepth 100000 in
theorem MemoryKeeps_calls (w : World) (A0 : Option Addr) (c0 : Nat) (l : List S40) (hr0 : Kd.C k40 w A0 l.length l) (hc0 : l.length ≤ c0) (hl : ∀ o ∈ l, okOp o) :
    Calls Try.prog 7 #[.slice A0 l.length c0] w fun e w' => e = .returned (.bool true) ∧ Below w.heap.size w w' := by
  have HS := Aside0.mk (Script.mk hr0 hc0 hl)
  have hlen : l.length ≤ 9223372036854775807 := hr0.2.1
  clear hr0 hl
  go_enter Try.func7, Try.ntmps7
  go_wp2_with fail
  refine (lives_calls _).mono ?_
  rintro e w1 ⟨rfl, hb⟩
  have B1 := Aside0.mk hb
  clear hb
  go_wp2_with fail
  refine (early_calls _ A0 l.length c0 hc0 hlen).mono ?_
  rintro e w' ⟨n, hn, rfl, rfl⟩
  have HT := Aside0.mk (HS.out.take n hn)
  have hn2 : n ≤ 200 := by omega
  clear hn
  go_wp2_with fail
  refine (New_calls _ 30 (by unfold oki; omega)).mono ?_
  rintro e w2 ⟨f, rfl, h2, hf, hb⟩
  have HF := Aside0.mk hf
  have HM := Aside0.mk h2
  have B2 := Aside0.mk (B1.out.trans (hb.mono B1.out.size))
  have B12 := Aside0.mk hb.size
  clear hf hb h2
  go_wp2_with fail
  refine (New_calls _ 30 (by unfold oki; omega)).mono ?_
  rintro e w3 ⟨g, rfl, h3, hg, hb⟩
  have hlt := HM.out.lts
  have FM := Aside0.mk (HM.out.below hb)
  have GM := Aside0.mk h3
  have HD := Aside0.mk (show ∀ b ∈ g.list, b ∉ f.list from fun b hb hm => by have := hlt b hm; have := hg b hb; omega)
  have HE := Aside0.mk (show ∀ b ∈ f.list, b ∉ g.list from fun b hb hm => by have := hlt b hb; have := hg b hm; omega)
  have FB := Aside0.mk (show ∀ b ∈ f.list, w.heap.size ≤ b from fun b hb => Nat.le_trans B1.out.size (HF.out b hb))
  have GB := Aside0.mk (show ∀ b ∈ g.list, w.heap.size ≤ b from fun b hb => Nat.le_trans B2.out.size (hg b hb))
  have B3 := Aside0.mk (B2.out.trans (hb.mono B2.out.size))
  clear hg hb h3 hlt HF HM
  go_wp2
  go_loopw [5] (fun x wr => ∃ (k : Nat) (S : MS), k ≤ n ∧ x = .int .i64 (k : Int) ∧ IsMem wr f S ∧ IsMem wr g S ∧ S.ws.length = 30 ∧ Below w.heap.size w wr) (fun x _ => n - (intOf x).toNat)
  case atStart => exact ⟨0, newS 30, by omega, rfl, FM.out, GM.out, by have := newS_len 30; omega, B3.out⟩
  case round =>
    obtain ⟨k, S, hk, rfl, hmf, hmg, hSl, hbr⟩ := hrel
    have MF := Aside0.mk hmf
    have MG := Aside0.mk hmg
    have SL := Aside0.mk hSl
    have BR := Aside0.mk hbr
    clear hmf hmg hSl hbr
    by_cases hlt : k < n
    · obtain ⟨o, ad, KA, kc, ho, hok, hA, x0, x1, x2, x3, hle, hC⟩ := HT.out.at BR.out k hlt
      subst hA
      have HO := Aside0.mk hok
      have HO1 := Aside0.mk ho
      have HC := Aside0.mk hC
      have HLE := Aside0.mk hle
      clear ho hok hC hle
      by_cases hk4 : kindOf o.f0 < 4
      · have g4 : decide (kindOf o.f0 < 4) = true := decide_eq_true hk4
        have HK4 := Aside0.mk hk4
        clear hk4
        go_wp2_with fail
        refine (kind_calls _ _ _ _ _ _ _ (Kd.C_below HC.out BR.out) HLE.out).mono ?_
        rintro e w4 ⟨rfl, hb⟩
        have B4 := Aside0.mk (BR.out.trans (hb.mono BR.out.size))
        have F4 := Aside0.mk (MF.out.below hb)
        have G4 := Aside0.mk (MG.out.below hb)
        clear hb x0 x1 x2 x3
        obtain ⟨o1, ad1, KA1, kc1, ho1, hok1, hA1, x0, x1, x2, x3, hle1, hC1⟩ := HT.out.at B4.out k hlt
        obtain rfl : o = o1 := Option.some.inj (HO1.out.symm.trans ho1)
        obtain rfl : ad = ad1 := Option.some.inj hA1
        have HC1 := Aside0.mk hC1
        have HLE1 := Aside0.mk hle1
        clear ho1 hok1 hA1 hle1 hC1
        go_wp2_with fail
        refine (does_as F4.out B4.out FB.out o HO.out KA1 kc1 HC1.out HLE1.out).mono ?_
        rintro e w5 ⟨q, S', rfl, h1, h2, h3, h4⟩
        have F5 := Aside0.mk h1
        have D5 := Aside0.mk h2
        have G5 := Aside0.mk (G4.out.kept h3 HD.out)
        have B5 := Aside0.mk h4
        clear h1 h2 h3 h4 x0 x1 x2 x3
        obtain ⟨o2, ad2, KA2, kc2, ho2, hok2, hA2, x0, x1, x2, x3, hle2, hC2⟩ := HT.out.at B5.out k hlt
        obtain rfl : o = o2 := Option.some.inj (HO1.out.symm.trans ho2)
        obtain rfl : ad = ad2 := Option.some.inj hA2
        have HC2 := Aside0.mk hC2
        have HLE2 := Aside0.mk hle2
        clear ho2 hok2 hA2 hle2 hC2
        go_wp2_with fail
        refine (does_as G5.out B5.out GB.out o HO.out KA2 kc2 HC2.out HLE2.out).mono ?_
        rintro e w6 ⟨q2, S2, rfl, h1, h2, h3, h4⟩
        have F6 := Aside0.mk (F5.out.kept h3 HE.out)
        have E6 := D5.out.det h2 (by have := HK4.out; omega)
        have G6 := Aside0.mk (show IsMem w6 g S' by rw [E6.2]; exact h1)
        have B6 := Aside0.mk h4
        clear h1 h2 h3 h4 E6 x0 x1 x2 x3
        go_wp2
        go_roundw
        case rel => exact ⟨k + 1, S', by omega, by go_num, F6.out, G6.out, by rw [D5.out.len]; exact SL.out, B6.out⟩
        case measure => simp [intOf]; omega
      · have g4 : decide (kindOf o.f0 < 4) = false := decide_eq_false hk4
        clear hk4
        go_wp2_with fail
        refine (kind_calls _ _ _ _ _ _ _ (Kd.C_below HC.out BR.out) HLE.out).mono ?_
        rintro e w4 ⟨rfl, hb⟩
        have B4 := Aside0.mk (BR.out.trans (hb.mono BR.out.size))
        have F4 := Aside0.mk (MF.out.below hb)
        have G4 := Aside0.mk (MG.out.below hb)
        clear hb x0 x1 x2 x3
        go_wp2
        go_roundw
        case rel => exact ⟨k + 1, S, by omega, by go_num, F4.out, G4.out, SL.out, B4.out⟩
        case measure => simp [intOf]; omega
    · obtain rfl : k = n := by omega
      clear hlt hk
      go_wp2_with fail
      refine (Image_as MF.out _ rfl).mono ?_
      rintro e w4 ⟨A4, c4, rfl, hR, hb⟩
      have HI := Aside0.mk hR
      have B4 := Aside0.mk (BR.out.trans (hb.mono BR.out.size))
      have B45 := Aside0.mk hb.size
      have Z4 := Aside0.mk (Nat.le_trans BR.out.size (Nat.le_refl _))
      have F4 := Aside0.mk (MF.out.below hb)
      have G4 := Aside0.mk (MG.out.below hb)
      have LT := Aside0.mk (show ∀ b, (b ∈ f.list ∨ b ∈ g.list) → b < wr.heap.size from fun b hb => hb.elim (MF.out.lts b) (MG.out.lts b))
      clear hb hR
      go_wp2_with fail
      refine (Loose_as G4.out _ rfl).mono ?_
      rintro e w5 ⟨A5, c5, rfl, hR, hb⟩
      have HKs := Aside0.mk hR
      have B5 := Aside0.mk (B4.out.trans (hb.mono B4.out.size))
      have F5 := Aside0.mk (F4.out.below hb)
      have G5 := Aside0.mk (G4.out.below hb)
      have HI5 := Aside0.mk (Kd.R_below HI.out hb)
      have Z5 := Aside0.mk hb.size
      clear hb hR
      have hkl : S.keys.length ≤ 4096 := by have := S.loose_len; have := MF.out.ok.len; simp [MS.keys]; omega
      go_wp2
      go_loopw [8] (fun x wr2 => ∃ (j : Nat) (S' : MS), j ≤ S.keys.length ∧ x = .int .i64 (j : Int) ∧ IsMem wr2 f S ∧ IsMem wr2 g S' ∧ EvTo S j S' ∧ Turn g.list w5 wr2) (fun x _ => S.keys.length - (intOf x).toNat)
      case atStart => exact ⟨0, S, by omega, rfl, F5.out, G5.out, EvTo.start S, Turn.refl _ _⟩
      case round =>
        obtain ⟨j, S', hj, rfl, hmf, hmg, hev, htr⟩ := hrel
        have MF2 := Aside0.mk hmf
        have MG2 := Aside0.mk hmg
        have EV := Aside0.mk hev
        have TR := Aside0.mk htr
        clear hmf hmg hev htr
        by_cases hlt : j < S.keys.length
        · obtain ⟨q, hq⟩ : ∃ q, S.keys[j]? = some q := ⟨_, List.getElem?_eq_getElem hlt⟩
          obtain ⟨q0, q1, v, hv⟩ := (S.keys_mem q).1 (List.mem_of_getElem? hq)
          have hr := R_turn HKs.out TR.out (fun b hb => Nat.lt_of_lt_of_le (LT.out b (.inr hb)) (by have := Z4.out; exact B45.out))
          obtain ⟨ad, hA, hcell⟩ := R_cell hr hq
          subst hA
          have HQ := Aside0.mk hq
          have QO := Aside0.mk (show oki q by have := SL.out; unfold oki; omega)
          clear hq hv hr q0 q1
          go_wp2_with fail
          refine (Evict_calls MG2.out q QO.out).mono ?_
          rintro e w6 ⟨rfl, h1, h2⟩
          have G6 := Aside0.mk h1
          have F6 := Aside0.mk (MF2.out.kept h2 HE.out)
          have T6 := Aside0.mk (TR.out.trans h2)
          clear h1 h2 hcell
          go_wp2
          go_roundw
          case rel => exact ⟨j + 1, _, by omega, by go_num, F6.out, G6.out, EV.out.step HQ.out, T6.out⟩
          case measure => simp [intOf]; omega
        · obtain rfl : j = S.keys.length := by omega
          have HI6 := Aside0.mk (R_turn HI5.out TR.out (fun b hb => LT.out b (.inr hb)))
          have B6 := Aside0.mk (B5.out.trans (TR.out.below B5.out.size GB.out))
          have Z6 := Aside0.mk TR.out.size
          clear hlt hj
          have LTw := Aside0.mk (show ∀ b, (b ∈ f.list ∨ b ∈ g.list) → b < wr.heap.size from fun b hb => hb.elim (MF2.out.lts b) (MG2.out.lts b))
          have OV := Aside0.mk EV.out.over
          have SE := Aside0.mk EV.out.len
          have IL := Aside0.mk (show S.image.length ≤ 9223372036854775806 by have := MF2.out.ok.len; simp [MS.image]; omega)
          clear EV
          go_wp2_with fail
          refine (Crash_calls (MF2.out.below ((Below.refl _ _).alloc (Nat.le_refl _) _)) (some ⟨wr.heap.size, 0, none⟩) 1 [true] (bools_lit (fun b hb => LTw.out b (.inl hb)) _) (by simp)).mono ?_
          rintro e w7 ⟨rfl, ⟨S7, h7, hc7⟩, t7⟩
          have F7 := Aside0.mk h7
          have C7 := Aside0.mk hc7.image_all
          have X7 := Aside0.mk (show Turn f.list wr w7 from (Turn.of_below ((Below.refl _ _).alloc (Nat.le_refl _) _) _).trans t7)
          clear h7 hc7 t7
          have G7 := Aside0.mk (MG2.out.kept X7.out HD.out)
          have HI7 := Aside0.mk (R_turn HI6.out X7.out (fun b hb => LT.out b (.inl hb)))
          have B7 := Aside0.mk (B6.out.trans (X7.out.below B6.out.size FB.out))
          go_wp2_with fail
          refine (Loose_as G7.out 0 (by rw [keys_nil fun i i0 i1 => (OV.out i i0 (by rw [SE.out] at i1; exact i1)).1]; rfl)).mono ?_
          rintro e w8 ⟨A8, c8, rfl, hR, hb⟩
          have F8 := Aside0.mk (F7.out.below hb)
          have G8 := Aside0.mk (G7.out.below hb)
          have HI8 := Aside0.mk (Kd.R_below HI7.out hb)
          have B8 := Aside0.mk (B7.out.trans (hb.mono B7.out.size))
          clear hR hb
          go_wp2_with fail
          refine (Crash_calls G8.out none 0 [] (bools_nil _ _) (by simp)).mono ?_
          rintro e w9 ⟨rfl, ⟨S9, h9, hc9⟩, t9⟩
          have G9 := Aside0.mk h9
          have hn : ∀ i : Int, 0 ≤ i → i < S'.ws.length → (S'.at i).now = (S'.at i).sure := fun i i0 i1 => by
            have := (OV.out i i0 (by rw [SE.out] at i1; exact i1)).1
            simp [Cell.now, this]
          have C9 := Aside0.mk ((hc9.image_none hn).trans (image_ext SE.out fun i i0 i1 => (OV.out i i0 (by rw [SE.out] at i1; exact i1)).2))
          have F9 := Aside0.mk (F8.out.kept t9 HE.out)
          have HI9 := Aside0.mk (R_turn HI8.out t9 (fun b hb => LT.out b (.inr hb)))
          have B9 := Aside0.mk (B8.out.trans (t9.below B8.out.size GB.out))
          clear h9 hc9 t9 hn
          go_wp2_with fail
          refine (Image_as F9.out _ C7.out).mono ?_
          rintro e w10 ⟨A10, c10, rfl, hR, hb⟩
          have G10 := Aside0.mk (G9.out.below hb)
          have HI10 := Aside0.mk (Kd.R_below HI9.out hb)
          have B10 := Aside0.mk (B9.out.trans (hb.mono B9.out.size))
          have HR10 := Aside0.mk hR
          clear hR hb
          go_wp2_with fail
          refine (Same_calls S.image IL.out _ _ c10 _ _ c4 (Kd.R_reads' HR10.out).2.2 (Kd.R_reads' HR10.out).2.1 (Kd.R_reads' HI10.out).2.2 (Kd.R_reads' HI10.out).2.1).mono ?_
          rintro e w11 ⟨rfl, hb⟩
          have G11 := Aside0.mk (G10.out.below hb)
          have HI11 := Aside0.mk (Kd.R_below HI10.out hb)
          have B11 := Aside0.mk (B10.out.trans (hb.mono B10.out.size))
          clear hb
          go_wp2_with fail
          refine (Image_as G11.out _ C9.out).mono ?_
          rintro e w12 ⟨A12, c12, rfl, hR, hb⟩
          have HI12 := Aside0.mk (Kd.R_below HI11.out hb)
          have B12' := Aside0.mk (B11.out.trans (hb.mono B11.out.size))
          have HR12 := Aside0.mk hR
          clear hR hb
          go_wp2_with fail
          refine (Same_calls S.image IL.out _ _ c12 _ _ c4 (Kd.R_reads' HR12.out).2.2 (Kd.R_reads' HR12.out).2.1 (Kd.R_reads' HI12.out).2.2 (Kd.R_reads' HI12.out).2.1).mono ?_
          rintro e w13 ⟨rfl, hb⟩
          have B13 := Aside0.mk (B12'.out.trans (hb.mono B12'.out.size))
          clear hb
          go_wp2
          go_ret
          exact ⟨rfl, B13.out⟩
end Go.Proofs.Ytifdinoioddnlaa.Mem
