/- What was stored, flushed and fenced is there behind whatever crash. -/
import Derived.Handy
import Derived.StillTailTactics
import Derived.Test.YtifdinoioddnlaaLawD
namespace Go.Proofs.Ytifdinoioddnlaa.Mem
open Go Go.RowKit Go.Proofs.Ytifdinoioddnlaa.ML Go.Proofs.YtifdinoioddnlaaW.PrintWords Go.Proofs.YtifdinoioddnlaaW.PrintLast Go.Proofs.YtifdinoioddnlaaW.PrintMore Go.Proofs.Ytifdinoioddnlaa.Print
set_option linter.unusedVariables false
set_option linter.unusedSimpArgs false
/-- A block of cells. -/
def Arr (w : World) (b : Nat) (xs : List Value) : Prop := ∃ cur e, w.heap[b]? = some (.cells cur e (0, 0)) ∧ cur.toList = xs
def boolsL (st : Int → Bool) : List Value := (List.range 30).map fun i : Nat => .bool (st (i : Int))
def numsL (la : Int → Int) : List Value := (List.range 30).map fun i : Nat => .int .u64 (la (i : Int))
theorem Arr.cell {w : World} {b : Nat} {xs : List Value} (h : Arr w b xs) {i : Nat} {v : Value} (hi : xs[i]? = some v) : w.cell? ⟨b, i, none⟩ = some v ∧ w.frozen? ⟨b, i, none⟩ = false := by
  obtain ⟨cur, e, h1, rfl⟩ := h
  exact ⟨cell_of h1 (by simpa using hi), frozen_of h1⟩
theorem Arr.set {w : World} {b : Nat} {xs : List Value} (h : Arr w b xs) (i : Nat) (v : Value) : Arr (w.setCell ⟨b, i, none⟩ v) b (xs.set i v) := by
  obtain ⟨cur, e, h1, rfl⟩ := h
  exact ⟨_, e, heap_set_same v h1, by simp⟩
theorem Arr.kept {w w' : World} {b : Nat} {xs : List Value} (h : Arr w b xs) {L : List Nat} (ht : Turn L w w') (hb : b ∉ L) : Arr w' b xs := by
  obtain ⟨cur, e, h1, h2⟩ := h
  exact ⟨cur, e, (ht.block b (Array.getElem?_eq_some_iff.1 h1).1 hb).trans h1, h2⟩
theorem boolsL_set (st : Int → Bool) {i : Int} (h0 : 0 ≤ i) (h1 : i < 30) : (boolsL st).set i.toNat (.bool true) = boolsL (fun j => if j = i then true else st j) := by
  refine List.ext_getElem? fun j => ?_
  unfold boolsL
  simp only [List.getElem?_set, List.getElem?_map, List.length_map, List.length_range]
  by_cases hj : j < 30
  · rw [List.getElem?_range hj]
    by_cases hi : i.toNat = j
    · have : (j : Int) = i := by omega
      rw [if_pos hi, if_pos (by omega)]
      simp [this]
    · have : (j : Int) ≠ i := by omega
      rw [if_neg hi]
      simp [this]
  · have e : (List.range 30)[j]? = none := List.getElem?_eq_none (by simp; omega)
    rw [e, if_neg (by omega)]
    rfl
theorem numsL_set (la : Int → Int) {i : Int} (v : Int) (h0 : 0 ≤ i) (h1 : i < 30) : (numsL la).set i.toNat (.int .u64 v) = numsL (fun j => if j = i then v else la j) := by
  refine List.ext_getElem? fun j => ?_
  unfold numsL
  simp only [List.getElem?_set, List.getElem?_map, List.length_map, List.length_range]
  by_cases hj : j < 30
  · rw [List.getElem?_range hj]
    by_cases hi : i.toNat = j
    · have : (j : Int) = i := by omega
      rw [if_pos hi, if_pos (by omega)]
      simp [this]
    · have : (j : Int) ≠ i := by omega
      rw [if_neg hi]
      simp [this]
  · have e : (List.range 30)[j]? = none := List.getElem?_eq_none (by simp; omega)
    rw [e, if_neg (by omega)]
    rfl
theorem boolsL_get (st : Int → Bool) {i : Int} (h0 : 0 ≤ i) (h1 : i < 30) : (boolsL st)[i.toNat]? = some (.bool (st i)) := by
  unfold boolsL
  rw [List.getElem?_map, List.getElem?_range (by omega)]
  simp [Int.toNat_of_nonneg h0]
theorem numsL_get (la : Int → Int) {i : Int} (h0 : 0 ≤ i) (h1 : i < 30) : (numsL la)[i.toNat]? = some (.int .u64 (la i)) := by
  unfold numsL
  rw [List.getElem?_map, List.getElem?_range (by omega)]
  simp [Int.toNat_of_nonneg h0]
set_option maxHeartbeats 8000000 in
set_option maxRecDepth 100000 in
theorem MemorySure_calls (w : World) (A0 : Option Addr) (c0 : Nat) (l : List S40) (A1 : Option Addr) (c1 : Nat) (l1 : List S40) (A2 : Option Addr) (c2 : Nat) (keep : List Bool) (hr0 : Kd.C k40 w A0 l.length l) (hc0 : l.length ≤ c0) (hr1 : Kd.C k40 w A1 l1.length l1) (hc1 : l1.length ≤ c1) (hr2 : Kd.C Kd.bool w A2 keep.length keep) (hc2 : keep.length ≤ c2)
    (hl : ∀ o ∈ l, okOp o) (hl1 : ∀ o ∈ l1, okOp o) (hkl : keep.length ≤ 140737488355328) :
    Calls Try.prog 4 #[.slice A0 l.length c0, .slice A1 l1.length c1, .slice A2 keep.length c2] w fun e w' => e = .returned (.bool true) ∧ Below w.heap.size w w' := by
  have HS := Aside0.mk (Script.mk hr0 hc0 hl)
  have HS1 := Aside0.mk (Script.mk hr1 hc1 hl1)
  have HK := Aside0.mk hr2
  have HKL := Aside0.mk hkl
  have hlen : l.length ≤ 9223372036854775807 := hr0.2.1
  have hlen1 : l1.length ≤ 9223372036854775807 := hr1.2.1
  clear hr0 hl hr1 hl1 hr2 hkl
  go_enter Try.func4, Try.ntmps4
  go_wp2_with fail
  refine (lives_calls _).mono ?_
  rintro e w1 ⟨rfl, hb⟩
  have B1 := Aside0.mk hb
  clear hb
  go_wp2_with fail
  refine (early_calls _ A0 l.length c0 hc0 hlen).mono ?_
  rintro e w' ⟨n, hn, rfl, rfl⟩
  have HT := Aside0.mk (HS.out.take n hn)
  have hn2 : n ≤ 200 := by omega
  clear hn
  go_wp2_with fail
  refine (early_calls _ A1 l1.length c1 hc1 hlen1).mono ?_
  rintro e w' ⟨n1, hn, rfl, rfl⟩
  have HT1 := Aside0.mk (HS1.out.take n1 hn)
  have hn3 : n1 ≤ 200 := by omega
  clear hn
  go_wp2_with fail
  refine (New_calls _ 30 (by unfold oki; omega)).mono ?_
  rintro e w2 ⟨f, rfl, h2, hf, hb⟩
  have FB := Aside0.mk (show ∀ b ∈ f.list, w.heap.size ≤ b from fun b hb => Nat.le_trans B1.out.size (hf b hb))
  have HM := Aside0.mk h2
  have B2 := Aside0.mk (B1.out.trans (hb.mono B1.out.size))
  clear hf hb h2
  go_wp2
  go_loopw [8] (fun x wr => ∃ (k : Nat) (S : MS), k ≤ n ∧ x = .int .i64 (k : Int) ∧ IsMem wr f S ∧ Fresh S ∧ Below w.heap.size w wr) (fun x _ => n - (intOf x).toNat)
  case atStart => exact ⟨0, newS 30, by omega, rfl, HM.out, ⟨by have := newS_len 30; omega, rfl, fun i _ _ => by rw [newS_at]; exact ⟨rfl, rfl⟩⟩, B2.out⟩
  case round =>
    obtain ⟨k, S, hk, rfl, hmf, hfr, hbr⟩ := hrel
    have MF := Aside0.mk hmf
    have FR := Aside0.mk hfr
    have BR := Aside0.mk hbr
    clear hmf hfr hbr
    by_cases hlt : k < n
    · obtain ⟨o, ad, KA, kc, ho, hok, hA, x0, x1, x2, x3, hle, hC⟩ := HT.out.at BR.out k hlt
      subst hA
      have HO := Aside0.mk hok
      have HO1 := Aside0.mk ho
      have HC := Aside0.mk hC
      have HLE := Aside0.mk hle
      clear ho hok hC hle
      by_cases hk0 : kindOf o.f0 = 0
      · have g4 : (kindOf o.f0 == 0) = true := by simp [hk0]
        have HK0 := Aside0.mk hk0
        clear hk0
        go_wp2_with fail
        refine (kind_calls _ _ _ _ _ _ _ (Kd.C_below HC.out BR.out) HLE.out).mono ?_
        rintro e w4 ⟨rfl, hb⟩
        have B4 := Aside0.mk (BR.out.trans (hb.mono BR.out.size))
        have F4 := Aside0.mk (MF.out.below hb)
        clear hb x0 x1 x2 x3
        obtain ⟨o1, ad1, KA1, kc1, ho1, hok1, hA1, x0, x1, x2, x3, hle1, hC1⟩ := HT.out.at B4.out k hlt
        obtain rfl : o = o1 := Option.some.inj (HO1.out.symm.trans ho1)
        obtain rfl : ad = ad1 := Option.some.inj hA1
        have HC1 := Aside0.mk hC1
        have HLE1 := Aside0.mk hle1
        clear ho1 hok1 hA1 hle1 hC1
        go_wp2_with fail
        refine (does_as F4.out B4.out FB.out o HO.out KA1 kc1 HC1.out HLE1.out).mono ?_
        rintro e w5 ⟨q, S', rfl, h1, h2, h3, h4⟩
        have F5 := Aside0.mk h1
        have D5 := Aside0.mk h2
        have B5 := Aside0.mk h4
        clear h1 h2 h3 h4 x0 x1 x2 x3
        go_wp2
        go_roundw
        case rel => exact ⟨k + 1, S', by omega, by go_num, F5.out, FR.out.store D5.out HK0.out, B5.out⟩
        case measure => simp [intOf]; omega
      · have g4 : (kindOf o.f0 == 0) = false := by simp [hk0]
        clear hk0
        go_wp2_with fail
        refine (kind_calls _ _ _ _ _ _ _ (Kd.C_below HC.out BR.out) HLE.out).mono ?_
        rintro e w4 ⟨rfl, hb⟩
        have B4 := Aside0.mk (BR.out.trans (hb.mono BR.out.size))
        have F4 := Aside0.mk (MF.out.below hb)
        clear hb x0 x1 x2 x3
        go_wp2
        go_roundw
        case rel => exact ⟨k + 1, S, by omega, by go_num, F4.out, FR.out, B4.out⟩
        case measure => simp [intOf]; omega
    · obtain rfl : k = n := by omega
      clear hlt hk
      go_wp2
      go_loopw [9] (fun x wr2 => ∃ (j : Nat) (Sf : MS), j ≤ 32 ∧ j % 8 = 0 ∧ x = .int .i64 (j : Int) ∧ IsMem wr2 f Sf ∧ FlTo S j Sf ∧ Below w.heap.size w wr2) (fun x _ => 32 - (intOf x).toNat)
      case atStart => exact ⟨0, S, by omega, rfl, rfl, MF.out, FlTo.start FR.out, BR.out⟩
      case round =>
        obtain ⟨j, Sf, hj, hj8, rfl, hmf, hf2, hb2⟩ := hrel
        have MF2 := Aside0.mk hmf
        have EF := Aside0.mk hf2
        have B5 := Aside0.mk hb2
        have J8 := Aside0.mk hj8
        clear hmf hf2 hb2 hj8
        by_cases hlt : j < 30
        · have SF := Aside0.mk (EF.out.step8 (by omega) (by omega) (by have := J8.out; omega))
          have hwr : IntKind.i64.wrap ((j : Int) + 8) = (j : Int) + 8 := IntWalk.i64_in _ (by omega)
          go_wp2_with fail
          refine (Flush_as MF2.out (j : Int) (by unfold oki; omega) 0 SF.out.1).mono ?_
          rintro e w6 ⟨rfl, h1, h2⟩
          have F6 := Aside0.mk h1
          have B6 := Aside0.mk (B5.out.trans (h2.below B5.out.size FB.out))
          clear h1 h2
          go_wp2
          go_roundw
          case rel => exact ⟨j + 8, _, by have := J8.out; omega, by have := J8.out; omega, by go_num, F6.out, SF.out.2, B6.out⟩
          case measure => simp [intOf]; omega
        · have hj30 : 30 ≤ j := by omega
          have FE := Aside0.mk (EF.out.fence (by omega))
          have FT := Aside0.mk (show Sf.fence.2.til = -1 by unfold MS.fence; simp only []; rw [call_run EF.out.til]; exact EF.out.til)
          have g30 : decide ((j : Int) < 30) = false := decide_eq_false (by omega)
          clear hlt hj EF
          go_wp2_with fail
          refine (Fence_as MF2.out 0 FE.out.1).mono ?_
          rintro e w7 ⟨rfl, h1, h2⟩
          generalize hT : Sf.fence.2 = T at h1 FE FT
          have F7 := Aside0.mk h1
          have B7 := Aside0.mk (B5.out.trans (h2.below B5.out.size FB.out))
          have TC := Aside0.mk (show ∀ i : Int, 0 ≤ i → i < 30 → (T.at i).loose = none from fun i i0 i1 => by rw [FE.out.2.2 i i0 i1])
          have TL := Aside0.mk FE.out.2.1
          clear h1 h2 hT FE
          go_wp2_with fail
          refine (Loose_as F7.out 0 (by rw [keys_nil fun i i0 i1 => TC.out i i0 (by rw [TL.out] at i1; exact i1)]; rfl)).mono ?_
          rintro e w8 ⟨A8, c8, rfl, hR, hb⟩
          have F8 := Aside0.mk (F7.out.below hb)
          have B8 := Aside0.mk (B7.out.trans (hb.mono B7.out.size))
          clear hR hb
          go_wp2_with fail
          refine (Image_as F8.out _ rfl).mono ?_
          rintro e w9 ⟨A9, c9, rfl, hR, hb⟩
          have HI9 := Aside0.mk hR
          have F9 := Aside0.mk (F8.out.below hb)
          have B9 := Aside0.mk (B8.out.trans (hb.mono B8.out.size))
          have LT := Aside0.mk F8.out.lts
          clear hR hb
          obtain ⟨p, hp⟩ : ∃ p, w9.heap.size = p := ⟨_, rfl⟩
          go_wp2
          generalize hX : w9.alloc _ = wx
          generalize hY : wx.alloc _ = wy
          have hsx : wx.heap.size = p + 1 := by rw [← hX]; simp [hp]
          have ax : Arr wx p (boolsL fun _ => false) := ⟨_, _, by rw [← hX, ← hp]; exact heap_new _ _, by kernel_rfl⟩
          have bx : Below w9.heap.size w9 wx := by rw [← hX]; exact (Below.refl _ _).alloc (Nat.le_refl _) _
          have byy : Below wx.heap.size wx wy := by rw [← hY]; exact (Below.refl _ _).alloc (Nat.le_refl _) _
          have ay : Arr wy p (boolsL fun _ => false) := ax.kept (L := []) (Turn.of_below byy _) (by simp)
          have az : Arr wy (p + 1) (numsL fun _ => 0) := ⟨_, _, by rw [← hY, ← hsx]; exact heap_new _ _, by kernel_rfl⟩
          have b9y : Below w9.heap.size w9 wy := bx.trans (byy.mono bx.size)
          have np : p ∉ f.list := fun hm => by have := F9.out.lts _ hm; omega
          have nq : p + 1 ∉ f.list := fun hm => by have := F9.out.lts _ hm; omega
          have AY := Aside0.mk ay
          have AZ := Aside0.mk az
          have FY := Aside0.mk (F9.out.below b9y)
          have BY := Aside0.mk (B9.out.trans (b9y.mono B9.out.size))
          have NP := Aside0.mk np
          have NQ := Aside0.mk nq
          have HL := Aside0.mk (show ∀ b ∈ p :: (p + 1) :: f.list, w.heap.size ≤ b from fun b hb => by
            have := B9.out.size
            simp only [List.mem_cons] at hb
            rcases hb with rfl | rfl | hb
            · omega
            · omega
            · exact FB.out b hb)
          have HRow := Aside0.mk (show ∀ W, Turn (p :: (p + 1) :: f.list) wy W → Kd.R (Kd.int .u64) 31 W w8.heap.size (fun _ => True) (.slice A9 T.image.length c9) T.image from fun W hW =>
            R_of_row (own_move (row_of_R HI9.out) fun k hk => by
              have k1 := own_lt (row_of_R HI9.out) k hk
              have k2 := own_base (row_of_R HI9.out) k hk
              rw [hW.block k (by have := b9y.size; omega) (fun hm => by
                simp only [List.mem_cons] at hm
                rcases hm with hm | hm | hm
                · omega
                · omega
                · have := LT.out k hm; omega)]
              exact b9y.block k k1))
          have L0 := Aside0.mk (show Later T (fun _ => false) (fun _ => 0) T from ⟨TL.out, FT.out, fun i i0 i1 => ⟨rfl, TC.out i i0 i1⟩⟩)
          clear hX hY hsx ax bx byy ay az b9y np nq hp
          go_loopw [13] (fun x wr => ∃ (k : Nat) (U : MS) (st : Int → Bool) (la : Int → Int), k ≤ n1 ∧ x = .int .i64 (k : Int) ∧ IsMem wr f U ∧ Later T st la U ∧ Arr wr p (boolsL st) ∧ Arr wr (p + 1) (numsL la) ∧ Turn (p :: (p + 1) :: f.list) wy wr) (fun x _ => n1 - (intOf x).toNat)
          case atStart => exact ⟨0, T, _, _, by omega, rfl, FY.out, L0.out, AY.out, AZ.out, Turn.refl _ _⟩
          case round =>
            obtain ⟨k, U, st, la, hk, rfl, hmu, hla, hap, haq, htr⟩ := hrel
            have MU := Aside0.mk hmu
            have LA := Aside0.mk hla
            have AP := Aside0.mk hap
            have AQ := Aside0.mk haq
            have TR := Aside0.mk htr
            have BR := Aside0.mk (BY.out.trans (htr.below BY.out.size HL.out))
            clear hmu hla hap haq htr
            by_cases hlt : k < n1
            · obtain ⟨o, ad, KA, kc, ho, hok, hA, x0, x1, x2, x3, hle, hC⟩ := HT1.out.at BR.out k hlt
              subst hA
              have HO := Aside0.mk hok
              have HO1 := Aside0.mk ho
              have HC := Aside0.mk hC
              have HLE := Aside0.mk hle
              clear ho hok hC hle
              by_cases hk1 : 1 < kindOf o.f0
              · have g5 : decide (1 < kindOf o.f0) = true := decide_eq_true hk1
                clear hk1
                go_wp2_with fail
                refine (kind_calls _ _ _ _ _ _ _ (Kd.C_below HC.out BR.out) HLE.out).mono ?_
                rintro e w4 ⟨rfl, hb⟩
                have B4 := Aside0.mk (BR.out.trans (hb.mono BR.out.size))
                have F4 := Aside0.mk (MU.out.below hb)
                have T4 := Aside0.mk (TR.out.trans (Turn.of_below hb _))
                have P4 := Aside0.mk (AP.out.kept (L := []) (Turn.of_below hb _) (by simp))
                have Q4 := Aside0.mk (AQ.out.kept (L := []) (Turn.of_below hb _) (by simp))
                clear hb x0 x1 x2 x3
                go_wp2
                go_roundw
                case rel => exact ⟨k + 1, U, st, la, by omega, by go_num, F4.out, LA.out, P4.out, Q4.out, T4.out⟩
                case measure => simp [intOf]; omega
              · have g5 : decide (1 < kindOf o.f0) = false := decide_eq_false hk1
                have K1 := Aside0.mk (Int.not_lt.1 hk1)
                clear hk1
                by_cases hk0 : kindOf o.f0 = 0
                · have g6 : (kindOf o.f0 == 0) = true := by simp [hk0]
                  have K0 := Aside0.mk hk0
                  clear hk0
                  by_cases ha : 0 ≤ o.f1
                  · by_cases hb : o.f1 < 30
                    · have a0 : decide (0 ≤ o.f1) = true := decide_eq_true ha
                      have a1 : decide (o.f1 < 30) = true := decide_eq_true hb
                      go_wp2_with fail
                      refine (kind_calls _ _ _ _ _ _ _ (Kd.C_below HC.out BR.out) HLE.out).mono ?_
                      rintro e w4 ⟨rfl, hb⟩
                      have B4 := Aside0.mk (BR.out.trans (hb.mono BR.out.size))
                      have F4 := Aside0.mk (MU.out.below hb)
                      have T4 := Aside0.mk (TR.out.trans (Turn.of_below hb _))
                      have P4 := Aside0.mk (AP.out.kept (L := []) (Turn.of_below hb _) (by simp))
                      have Q4 := Aside0.mk (AQ.out.kept (L := []) (Turn.of_below hb _) (by simp))
                      clear hb x0 x1 x2 x3
                      obtain ⟨o1, ad1, KA1, kc1, ho1, hok1, hA1, x0, x1, x2, x3, hle1, hC1⟩ := HT1.out.at B4.out k hlt
                      obtain rfl : o = o1 := Option.some.inj (HO1.out.symm.trans ho1)
                      obtain rfl : ad = ad1 := Option.some.inj hA1
                      have HC1 := Aside0.mk hC1
                      have HLE1 := Aside0.mk hle1
                      clear ho1 hok1 hA1 hle1 hC1
                      have hpc := (P4.out.cell (boolsL_get st ha hb))
                      have hqc := (Q4.out.cell (numsL_get la ha hb))
                      obtain ⟨hpc1, hpc2⟩ := hpc
                      have tset := Turn.setCell w4 ⟨p, o.f1.toNat, none⟩ (.bool true)
                      have bset : Below w.heap.size w (w4.setCell ⟨p, o.f1.toNat, none⟩ (.bool true)) := B4.out.setCell (HL.out p (by simp)) _
                      have PS := Aside0.mk (P4.out.set o.f1.toNat (.bool true))
                      have QS := Aside0.mk (Q4.out.kept tset (by simp))
                      have FS := Aside0.mk (F4.out.kept tset (fun b hb he => NP.out (by simp at he; rw [← he]; exact hb)))
                      have TS := Aside0.mk (T4.out.trans (tset.mono fun y hy => .inl (by simp at hy ⊢; exact .inl hy)))
                      have BS := Aside0.mk bset
                      go_wp2
                      clear x0 x1 x2 x3 hpc1 hpc2 hqc tset bset
                      generalize w4.setCell ⟨p, o.f1.toNat, none⟩ (.bool true) = wS at PS QS FS TS BS ⊢
                      obtain ⟨o2, ad2, KA2, kc2, ho2, hok2, hA2, x0, x1, x2, x3, hle2, hC2⟩ := HT1.out.at BS.out k hlt
                      obtain rfl : o = o2 := Option.some.inj (HO1.out.symm.trans ho2)
                      obtain rfl : ad = ad2 := Option.some.inj hA2
                      have HC2 := Aside0.mk hC2
                      have HLE2 := Aside0.mk hle2
                      clear ho2 hok2 hA2 hle2 hC2
                      obtain ⟨hq1, hq2⟩ := QS.out.cell (numsL_get la ha hb)
                      go_still_tail 11, (by kernel_rfl)
                      have BD := Aside0.mk (show Below w.heap.size w wS.drew from BS.out.drew)
                      have PD := Aside0.mk (PS.out.kept (Turn.drew wS []) (by simp))
                      have QD := Aside0.mk (QS.out.kept (Turn.drew wS []) (by simp))
                      have FD := Aside0.mk (FS.out.kept (Turn.drew wS []) (by simp))
                      have TD := Aside0.mk (TS.out.trans (Turn.drew wS _))
                      clear x0 x1 x2 x3 hq1 hq2
                      change wpList _ _ _ _ _ wS.drew
                      generalize wS.drew = wD at BD PD QD FD TD ⊢
                      obtain ⟨hq1, hq2⟩ := QD.out.cell (numsL_get la ha hb)
                      have tset := Turn.setCell wD ⟨p + 1, o.f1.toNat, none⟩ (.int .u64 o.f2)
                      have B4 := Aside0.mk (BD.out.setCell (p := ⟨p + 1, o.f1.toNat, none⟩) (HL.out (p + 1) (by simp)) (.int .u64 o.f2))
                      have P4 := Aside0.mk (PD.out.kept tset (by simp))
                      have Q4 := Aside0.mk (QD.out.set o.f1.toNat (.int .u64 o.f2))
                      have F4 := Aside0.mk (FD.out.kept tset (fun b hb he => NQ.out (by simp at he; rw [← he]; exact hb)))
                      have T4 := Aside0.mk (TD.out.trans (tset.mono fun y hy => .inl (by simp at hy ⊢; exact .inr (.inl hy))))
                      clear tset
                      obtain ⟨o3, ad3, KA3, kc3, ho3, hok3, hA3, x0, x1, x2, x3, hle3, hC3⟩ := HT1.out.at B4.out k hlt
                      obtain rfl : o = o3 := Option.some.inj (HO1.out.symm.trans ho3)
                      obtain rfl : ad = ad3 := Option.some.inj hA3
                      have HC3 := Aside0.mk hC3
                      have HLE3 := Aside0.mk hle3
                      clear ho3 hok3 hA3 hle3 hC3
                      go_wp2_with fail
                      refine (does_as F4.out B4.out FB.out o HO.out KA3 kc3 HC3.out HLE3.out).mono ?_
                      rintro e w5 ⟨q, U', rfl, h1, h2, h3, h4⟩
                      have F5 := Aside0.mk h1
                      have D5 := Aside0.mk (LA.out.does h2 K1.out)
                      have T5 := Aside0.mk (T4.out.trans (h3.mono fun y hy => .inl (by simp [hy])))
                      have P5 := Aside0.mk (P4.out.kept h3 NP.out)
                      have Q5 := Aside0.mk (Q4.out.kept h3 NQ.out)
                      clear h1 h2 h3 h4 x0 x1 x2 x3
                      go_wp2
                      go_roundw
                      case rel =>
                        have hc := D5.out
                        have e1 : ∀ i : Int, (kindOf o.f0 = 0 ∧ 0 ≤ o.f1 ∧ o.f1 < 30 ∧ i = o.f1) ↔ i = o.f1 := fun i => ⟨fun h => h.2.2.2, fun h => ⟨K0.out, ha, hb, h⟩⟩
                        simp only [e1] at hc
                        exact ⟨k + 1, U', _, _, by omega, by go_num, F5.out, hc, by rw [← boolsL_set st ha hb]; exact P5.out, by rw [← numsL_set la o.f2 ha hb]; exact Q5.out, T5.out⟩
                      case measure => simp [intOf]; omega
                    · have a0 : decide (0 ≤ o.f1) = true := decide_eq_true ha
                      have a1 : decide (o.f1 < 30) = false := decide_eq_false hb
                      go_wp2_with fail
                      refine (kind_calls _ _ _ _ _ _ _ (Kd.C_below HC.out BR.out) HLE.out).mono ?_
                      rintro e w4 ⟨rfl, hb⟩
                      have B4 := Aside0.mk (BR.out.trans (hb.mono BR.out.size))
                      have F4 := Aside0.mk (MU.out.below hb)
                      have T4 := Aside0.mk (TR.out.trans (Turn.of_below hb _))
                      have P4 := Aside0.mk (AP.out.kept (L := []) (Turn.of_below hb _) (by simp))
                      have Q4 := Aside0.mk (AQ.out.kept (L := []) (Turn.of_below hb _) (by simp))
                      clear hb x0 x1 x2 x3
                      obtain ⟨o1, ad1, KA1, kc1, ho1, hok1, hA1, x0, x1, x2, x3, hle1, hC1⟩ := HT1.out.at B4.out k hlt
                      obtain rfl : o = o1 := Option.some.inj (HO1.out.symm.trans ho1)
                      obtain rfl : ad = ad1 := Option.some.inj hA1
                      have HC1 := Aside0.mk hC1
                      have HLE1 := Aside0.mk hle1
                      clear ho1 hok1 hA1 hle1 hC1
                      go_wp2_with fail
                      refine (does_as F4.out B4.out FB.out o HO.out KA1 kc1 HC1.out HLE1.out).mono ?_
                      rintro e w5 ⟨q, U', rfl, h1, h2, h3, h4⟩
                      have F5 := Aside0.mk h1
                      have D5 := Aside0.mk (LA.out.does h2 K1.out)
                      have T5 := Aside0.mk (T4.out.trans (h3.mono fun y hy => .inl (by simp [hy])))
                      have P5 := Aside0.mk (P4.out.kept h3 NP.out)
                      have Q5 := Aside0.mk (Q4.out.kept h3 NQ.out)
                      clear h1 h2 h3 h4 x0 x1 x2 x3
                      go_wp2
                      go_roundw
                      case rel =>
                        refine ⟨k + 1, U', st, la, by omega, by go_num, F5.out, ?_, P5.out, Q5.out, T5.out⟩
                        have hne : ∀ i : Int, ¬ (kindOf o.f0 = 0 ∧ 0 ≤ o.f1 ∧ o.f1 < 30 ∧ i = o.f1) := fun i h => by omega
                        have := D5.out
                        simp only [if_neg (hne _)] at this
                        exact this
                      case measure => simp [intOf]; omega
                  · have a0 : decide (0 ≤ o.f1) = false := decide_eq_false ha
                    go_wp2_with fail
                    refine (kind_calls _ _ _ _ _ _ _ (Kd.C_below HC.out BR.out) HLE.out).mono ?_
                    rintro e w4 ⟨rfl, hb⟩
                    have B4 := Aside0.mk (BR.out.trans (hb.mono BR.out.size))
                    have F4 := Aside0.mk (MU.out.below hb)
                    have T4 := Aside0.mk (TR.out.trans (Turn.of_below hb _))
                    have P4 := Aside0.mk (AP.out.kept (L := []) (Turn.of_below hb _) (by simp))
                    have Q4 := Aside0.mk (AQ.out.kept (L := []) (Turn.of_below hb _) (by simp))
                    clear hb x0 x1 x2 x3
                    obtain ⟨o1, ad1, KA1, kc1, ho1, hok1, hA1, x0, x1, x2, x3, hle1, hC1⟩ := HT1.out.at B4.out k hlt
                    obtain rfl : o = o1 := Option.some.inj (HO1.out.symm.trans ho1)
                    obtain rfl : ad = ad1 := Option.some.inj hA1
                    have HC1 := Aside0.mk hC1
                    have HLE1 := Aside0.mk hle1
                    clear ho1 hok1 hA1 hle1 hC1
                    go_wp2_with fail
                    refine (does_as F4.out B4.out FB.out o HO.out KA1 kc1 HC1.out HLE1.out).mono ?_
                    rintro e w5 ⟨q, U', rfl, h1, h2, h3, h4⟩
                    have F5 := Aside0.mk h1
                    have D5 := Aside0.mk (LA.out.does h2 K1.out)
                    have T5 := Aside0.mk (T4.out.trans (h3.mono fun y hy => .inl (by simp [hy])))
                    have P5 := Aside0.mk (P4.out.kept h3 NP.out)
                    have Q5 := Aside0.mk (Q4.out.kept h3 NQ.out)
                    clear h1 h2 h3 h4 x0 x1 x2 x3
                    go_wp2
                    go_roundw
                    case rel =>
                      refine ⟨k + 1, U', st, la, by omega, by go_num, F5.out, ?_, P5.out, Q5.out, T5.out⟩
                      have hne : ∀ i : Int, ¬ (kindOf o.f0 = 0 ∧ 0 ≤ o.f1 ∧ o.f1 < 30 ∧ i = o.f1) := fun i h => by omega
                      have := D5.out
                      simp only [if_neg (hne _)] at this
                      exact this
                    case measure => simp [intOf]; omega
                · have g6 : (kindOf o.f0 == 0) = false := by simp [hk0]
                  go_wp2_with fail
                  refine (kind_calls _ _ _ _ _ _ _ (Kd.C_below HC.out BR.out) HLE.out).mono ?_
                  rintro e w4 ⟨rfl, hb⟩
                  have B4 := Aside0.mk (BR.out.trans (hb.mono BR.out.size))
                  have F4 := Aside0.mk (MU.out.below hb)
                  have T4 := Aside0.mk (TR.out.trans (Turn.of_below hb _))
                  have P4 := Aside0.mk (AP.out.kept (L := []) (Turn.of_below hb _) (by simp))
                  have Q4 := Aside0.mk (AQ.out.kept (L := []) (Turn.of_below hb _) (by simp))
                  clear hb x0 x1 x2 x3
                  obtain ⟨o1, ad1, KA1, kc1, ho1, hok1, hA1, x0, x1, x2, x3, hle1, hC1⟩ := HT1.out.at B4.out k hlt
                  obtain rfl : o = o1 := Option.some.inj (HO1.out.symm.trans ho1)
                  obtain rfl : ad = ad1 := Option.some.inj hA1
                  have HC1 := Aside0.mk hC1
                  have HLE1 := Aside0.mk hle1
                  clear ho1 hok1 hA1 hle1 hC1
                  go_wp2_with fail
                  refine (does_as F4.out B4.out FB.out o HO.out KA1 kc1 HC1.out HLE1.out).mono ?_
                  rintro e w5 ⟨q, U', rfl, h1, h2, h3, h4⟩
                  have F5 := Aside0.mk h1
                  have D5 := Aside0.mk (LA.out.does h2 K1.out)
                  have T5 := Aside0.mk (T4.out.trans (h3.mono fun y hy => .inl (by simp [hy])))
                  have P5 := Aside0.mk (P4.out.kept h3 NP.out)
                  have Q5 := Aside0.mk (Q4.out.kept h3 NQ.out)
                  clear h1 h2 h3 h4 x0 x1 x2 x3
                  go_wp2
                  go_roundw
                  case rel =>
                    refine ⟨k + 1, U', st, la, by omega, by go_num, F5.out, ?_, P5.out, Q5.out, T5.out⟩
                    have hne : ∀ i : Int, ¬ (kindOf o.f0 = 0 ∧ 0 ≤ o.f1 ∧ o.f1 < 30 ∧ i = o.f1) := fun i h => hk0 h.1
                    have := D5.out
                    simp only [if_neg (hne _)] at this
                    exact this
                  case measure => simp [intOf]; omega
            · obtain rfl : k = n1 := by omega
              clear hlt hk
              go_wp2_with fail
              refine (Crash_calls MU.out A2 c2 keep (Bools.of_C HK.out BR.out FB.out) HKL.out).mono ?_
              rintro e wc ⟨rfl, ⟨V, h1, hcr⟩, h2⟩
              have CV := Aside0.mk (show ∀ i : Int, 0 ≤ i → i < 30 → V.read i = (T.at i).sure ∨ (st i = true ∧ V.read i = la i) from fun i i0 i1 => LA.out.crash hcr i i0 i1)
              have VL := Aside0.mk (show V.keys = [] from keys_nil fun i i0 i1 => hcr.loose i i0 i1)
              have MV := Aside0.mk h1
              have PC := Aside0.mk (AP.out.kept h2 NP.out)
              have QC := Aside0.mk (AQ.out.kept h2 NQ.out)
              have RC := Aside0.mk (HRow.out _ (TR.out.trans (h2.mono fun y hy => .inl (by simp [hy]))))
              have BC := Aside0.mk (BR.out.trans (h2.below BR.out.size FB.out))
              have LI := Aside0.mk (show T.image.length = 30 by rw [MS.image_len]; exact TL.out)
              clear h1 h2 hcr
              go_wp2
              go_loopw [15] (fun x wr => ∃ i : Nat, i ≤ 30 ∧ x = .int .i64 (i : Int) ∧ wr = wc) (fun x _ => 30 - (intOf x).toNat)
              case atStart => exact ⟨0, by omega, rfl, rfl⟩
              case round =>
                obtain ⟨i, hi, rfl, rfl⟩ := hrel
                by_cases hlt : i < 30
                · obtain ⟨s, hs⟩ : ∃ s, (T.at (i : Int)).sure = s := ⟨_, rfl⟩
                  obtain ⟨b, hb⟩ : ∃ b, st (i : Int) = b := ⟨_, rfl⟩
                  obtain ⟨t, ht⟩ : ∃ t, la (i : Int) = t := ⟨_, rfl⟩
                  have hcv := CV.out (i : Int) (by omega) (by omega)
                  have hps := boolsL_get st (i := (i : Int)) (by omega) (by omega)
                  have hqs := numsL_get la (i := (i : Int)) (by omega) (by omega)
                  rw [Int.toNat_natCast] at hps hqs
                  rw [hb] at hps
                  rw [ht] at hqs
                  rw [hs, hb, ht] at hcv
                  have hpc := (PC.out.cell hps).1
                  have hqc := (QC.out.cell hqs).1
                  have himg := image_get T (i : Int) (by omega) (by rw [TL.out]; omega)
                  rw [Int.toNat_natCast] at himg
                  have hnow : (T.at (i : Int)).now = s := by rw [Cell.now, TC.out (i : Int) (by omega) (by omega)]; exact hs
                  rw [hnow] at himg
                  obtain ⟨da, hdA, hdc⟩ := R_cell RC.out himg
                  subst hdA
                  have LI' : i < T.image.length := by rw [LI.out]; exact hlt
                  clear himg hnow hps hqs hs hb ht
                  rcases hcv with hv | ⟨hb, hv⟩
                  · go_wp2_with fail
                    refine (Read_as MV.out (i : Int) (by unfold oki; omega) s hv).mono ?_
                    rintro e w' ⟨rfl, rfl⟩
                    clear hv
                    cases b
                    · go_wp2
                      go_roundw
                      case rel => exact ⟨i + 1, by omega, by go_num, by first | rfl | trivial⟩
                      case measure => simp [intOf]; omega
                    · go_wp2
                      go_roundw
                      case rel => exact ⟨i + 1, by omega, by go_num, by first | rfl | trivial⟩
                      case measure => simp [intOf]; omega
                  · subst hb
                    go_wp2_with fail
                    refine (Read_as MV.out (i : Int) (by unfold oki; omega) t hv).mono ?_
                    rintro e w' ⟨rfl, rfl⟩
                    clear hv
                    by_cases hts : t = s
                    · subst hts
                      go_wp2
                      go_roundw
                      case rel => exact ⟨i + 1, by omega, by go_num, by first | rfl | trivial⟩
                      case measure => simp [intOf]; omega
                    · have g7 : (t == s) = false := by simp [hts]
                      have g8 : (t != s) = true := by simp [hts]
                      clear hts
                      go_wp2
                      go_roundw
                      case rel => exact ⟨i + 1, by omega, by go_num, by first | rfl | trivial⟩
                      case measure => simp [intOf]; omega
                · obtain rfl : i = 30 := by omega
                  clear hlt hi
                  go_wp2_with fail
                  refine (Loose_as MV.out 0 (by rw [VL.out]; rfl)).mono ?_
                  rintro e wz ⟨Az, cz, rfl, hR, hb⟩
                  have BZ := Aside0.mk (BC.out.trans (hb.mono BC.out.size))
                  clear hR hb
                  go_wp2
                  go_ret
                  exact ⟨rfl, BZ.out⟩
end Go.Proofs.Ytifdinoioddnlaa.Mem
