/- From the call on at which it stands still nothing changes, till a crash. -/
import Derived.Handy
import Derived.Test.YtifdinoioddnlaaLawC
namespace Go.Proofs.Ytifdinoioddnlaa.Mem
open Go Go.RowKit Go.Proofs.Ytifdinoioddnlaa.ML Go.Proofs.YtifdinoioddnlaaW.PrintWords Go.Proofs.YtifdinoioddnlaaW.PrintLast Go.Proofs.YtifdinoioddnlaaW.PrintMore Go.Proofs.Ytifdinoioddnlaa.Print
set_option linter.unusedVariables false
set_option linter.unusedSimpArgs false
theorem call_cases (S : MS) (b : Bool) : (S.call b).2.calls = wrap64 (S.calls + 1) ∧ ((S.call b).1 = 14 ↔ S.til = 0) ∧ (S.til = 0 → (S.call b).2.til = 0) ∧ (0 < S.til → (S.call b).2.til = S.til - 1) := by
  unfold MS.call
  split
  · rename_i h; exact ⟨rfl, by simp [h], fun _ => h, fun h' => by omega⟩
  · rename_i h
    split
    · exact ⟨rfl, by cases b <;> simp [h], fun h' => absurd h' h, fun _ => rfl⟩
    · exact ⟨rfl, by cases b <;> simp [h], fun h' => absurd h' h, fun h' => by omega⟩
theorem Does.low {S : MS} {o : S40} {q : Int} {S' : MS} (h : Does S o q S') (hk : kindOf o.f0 ≤ 2) :
    S'.calls = wrap64 (S.calls + 1) ∧ (q = 14 ↔ S.til = 0) ∧ (S.til = 0 → S'.til = 0 ∧ S'.image = S.image) ∧ (0 < S.til → S'.til = S.til - 1) := by
  obtain ⟨k0, k1⟩ := kindOf_lt o.f0
  have key : ∀ b (q : Int) (S' : MS) (G : MS → MS), (∀ T, (G T).calls = T.calls ∧ (G T).til = T.til) → (q, S') = (if (S.call b).1 = 0 then (0, G (S.call b).2) else S.call b) →
      S'.calls = wrap64 (S.calls + 1) ∧ (q = 14 ↔ S.til = 0) ∧ (S.til = 0 → S'.til = 0 ∧ S'.image = S.image) ∧ (0 < S.til → S'.til = S.til - 1) := by
    intro b q S' G hG he
    obtain ⟨c1, c2, c3, c4⟩ := call_cases S b
    by_cases h0 : (S.call b).1 = 0
    · rw [if_pos h0] at he
      obtain ⟨rfl, rfl⟩ := Prod.mk.inj he
      have hne : S.til ≠ 0 := fun h => by have := c2.2 h; omega
      refine ⟨(hG _).1.trans c1, ⟨fun h => by omega, fun h => absurd h hne⟩, fun h => absurd h hne, fun h => (hG _).2.trans (c4 h)⟩
    · rw [if_neg h0] at he
      have e1 : q = (S.call b).1 := congrArg Prod.fst he
      have e2 : S' = (S.call b).2 := congrArg Prod.snd he
      subst e1
      subst e2
      exact ⟨c1, c2, fun h => ⟨c3 h, by unfold MS.image; rw [call_ws]⟩, c4⟩
  have hc : kindOf o.f0 = 0 ∨ kindOf o.f0 = 1 ∨ kindOf o.f0 = 2 := by omega
  rcases hc with e | e | e
  · exact key _ _ _ (fun T => T.set o.f1 ⟨(T.at o.f1).sure, some o.f2, (T.at o.f1).way⟩) (fun _ => ⟨rfl, rfl⟩) (h.s0 e)
  · exact key _ _ _ (fun T => T.flushTo (o.f1 - o.f1 % 8) (o.f1 - o.f1 % 8 + 8)) (fun _ => ⟨rfl, rfl⟩) (h.s1 e)
  · exact key _ _ _ (fun T => T.mapI fun _ c => c.fenced) (fun _ => ⟨rfl, rfl⟩) (h.s2 e)
theorem store_ok {S : MS} (ht : S.til = -1) (hl : S.ws.length = 30) : (S.store 0 9).1 = 0 ∧ (S.store 0 9).2.read 0 = 9 := by
  have hh : S.has 0 = true := (S.has_iff 0).2 ⟨by omega, by omega⟩
  have hc : S.call true = (0, { S with calls := wrap64 (S.calls + 1) }) := by
    unfold MS.call
    rw [if_neg (by omega), if_neg (by omega)]
    rfl
  unfold MS.store
  rw [hh, hc]
  simp only [if_true]
  refine ⟨trivial, ?_⟩
  unfold MS.read
  rw [if_pos ((MS.has_iff _ 0).2 ⟨by omega, by rw [MS.set_len]; simp only []; omega⟩), MS.set_at_same _ _ (by omega) (by simp only []; omega)]
  rfl
set_option maxHeartbeats 4000000 in
set_option maxRecDepth 100000 in
theorem MemoryStops_calls (w : World) (A0 : Option Addr) (c0 : Nat) (l : List S40) (n0 : Int) (hr0 : Kd.C k40 w A0 l.length l) (hc0 : l.length ≤ c0) (hl : ∀ o ∈ l, okOp o) (hn0 : oki n0) :
    Calls Try.prog 5 #[.slice A0 l.length c0, .int .i64 n0] w fun e w' => e = .returned (.bool true) ∧ Below w.heap.size w w' := by
  have HS := Aside0.mk (Script.mk hr0 hc0 hl)
  have hlen : l.length ≤ 9223372036854775807 := hr0.2.1
  clear hr0 hl
  go_enter Try.func5, Try.ntmps5
  go_wp2_with fail
  refine (lives_calls _).mono ?_
  rintro e w1 ⟨rfl, hb⟩
  have B1 := Aside0.mk hb
  clear hb
  go_wp2_with fail
  refine (early_calls _ A0 l.length c0 hc0 hlen).mono ?_
  rintro e w' ⟨n, hn, rfl, rfl⟩
  have HT := Aside0.mk (HS.out.take n hn)
  have hn2 : n ≤ 200 := by omega
  clear hn
  go_wp2_with fail
  refine (New_calls _ 30 (by unfold oki; omega)).mono ?_
  rintro e w2 ⟨f, rfl, h2, hf, hb⟩
  have FB := Aside0.mk (show ∀ b ∈ f.list, w.heap.size ≤ b from fun b hb => Nat.le_trans B1.out.size (hf b hb))
  have HM := Aside0.mk h2
  have B2 := Aside0.mk (B1.out.trans (hb.mono B1.out.size))
  clear hf hb h2
  go_wp2_with fail
  generalize hm : wrap64 ((IntKind.u64.wrap n0).tmod 60) = m
  have hm0 : 0 ≤ m ∧ m < 60 := by
    rw [← hm]
    have h : 0 ≤ IntKind.u64.wrap n0 := by unfold IntKind.wrap; simp [IntKind.bits, IntKind.signed]; omega
    rw [Int.tmod_eq_emod_of_nonneg h]
    unfold wrap64
    omega
  clear hm
  obtain ⟨m0, m1⟩ := hm0
  refine (Stop_calls HM.out m (by unfold oki; omega)).mono ?_
  rintro e w3 ⟨rfl, h3, t3⟩
  have F3 := Aside0.mk h3
  have B3 := Aside0.mk (B2.out.trans (t3.below B2.out.size FB.out))
  have TIL := Aside0.mk (show ((newS 30).stop m).til = m by unfold MS.stop; simp only []; rw [if_neg (by omega)])
  clear h3 t3
  go_wp2
  go_loopw [6] (fun x wr => ∃ (k : Nat) (S : MS), k ≤ n ∧ x = .int .i64 (k : Int) ∧ IsMem wr f S ∧ S.ws.length = 30 ∧ 0 ≤ S.calls ∧ S.calls ≤ k ∧ S.til = max (m - S.calls) 0 ∧ Below w.heap.size w wr) (fun x _ => n - (intOf x).toNat)
  case atStart => exact ⟨0, _, by omega, rfl, F3.out, by have := newS_len 30; simp [MS.stop]; omega, by show (0:Int) ≤ 0; omega, by show (0:Int) ≤ 0; omega, by rw [TIL.out]; show m = max (m - 0) 0; omega, B3.out⟩
  case round =>
    obtain ⟨k, S, hk, rfl, hmf, hSl, hc1, hc2, hti, hbr⟩ := hrel
    obtain ⟨c, hcc⟩ : ∃ c, S.calls = c := ⟨_, rfl⟩
    rw [hcc] at hc1 hc2 hti
    have HCc := Aside0.mk hcc
    have MF := Aside0.mk hmf
    have SL := Aside0.mk hSl
    have TI := Aside0.mk hti
    have BR := Aside0.mk hbr
    clear hmf hSl hbr hti hcc
    by_cases hlt : k < n
    · obtain ⟨o, ad, KA, kc, ho, hok, hA, x0, x1, x2, x3, hle, hC⟩ := HT.out.at BR.out k hlt
      subst hA
      have HO := Aside0.mk hok
      have HO1 := Aside0.mk ho
      have HC := Aside0.mk hC
      have HLE := Aside0.mk hle
      clear ho hok hC hle
      by_cases hk2 : 2 < kindOf o.f0
      · have g4 : decide (2 < kindOf o.f0) = true := decide_eq_true hk2
        clear hk2
        go_wp2_with fail
        refine (kind_calls _ _ _ _ _ _ _ (Kd.C_below HC.out BR.out) HLE.out).mono ?_
        rintro e w4 ⟨rfl, hb⟩
        have B4 := Aside0.mk (BR.out.trans (hb.mono BR.out.size))
        have F4 := Aside0.mk (MF.out.below hb)
        clear hb x0 x1 x2 x3
        go_wp2
        go_roundw
        case rel => exact ⟨k + 1, S, by omega, by go_num, F4.out, SL.out, by rw [HCc.out]; exact hc1, by rw [HCc.out]; omega, by rw [HCc.out]; exact TI.out, B4.out⟩
        case measure => simp [intOf]; omega
      · have g4 : decide (2 < kindOf o.f0) = false := decide_eq_false hk2
        have HK2 := Aside0.mk (Int.not_lt.1 hk2)
        clear hk2
        go_wp2_with fail
        refine (kind_calls _ _ _ _ _ _ _ (Kd.C_below HC.out BR.out) HLE.out).mono ?_
        rintro e w4 ⟨rfl, hb⟩
        have B4 := Aside0.mk (BR.out.trans (hb.mono BR.out.size))
        have F4 := Aside0.mk (MF.out.below hb)
        clear hb x0 x1 x2 x3
        by_cases hmc : m ≤ c
        · have g5 : decide (m ≤ c) = true := decide_eq_true hmc
          have T0 := Aside0.mk (show S.til = 0 by rw [TI.out]; omega)
          clear hmc
          go_wp2_with fail
          refine (Image_as F4.out _ rfl).mono ?_
          rintro e w5 ⟨A5, c5, rfl, hR, hb⟩
          have HI5 := Aside0.mk hR
          have F5 := Aside0.mk (F4.out.below hb)
          have B5 := Aside0.mk (B4.out.trans (hb.mono B4.out.size))
          have LT := Aside0.mk F4.out.lts
          clear hR hb
          go_wp2_with fail
          refine (Calls_as F5.out c HCc.out).mono ?_
          rintro e w' ⟨rfl, rfl⟩
          obtain ⟨o2, ad2, KA2, kc2, ho2, hok2, hA2, x0, x1, x2, x3, hle2, hC2⟩ := HT.out.at B5.out k hlt
          obtain rfl : o = o2 := Option.some.inj (HO1.out.symm.trans ho2)
          obtain rfl : ad = ad2 := Option.some.inj hA2
          have HC2 := Aside0.mk hC2
          have HLE2 := Aside0.mk hle2
          clear ho2 hok2 hA2 hle2 hC2
          go_wp2_with fail
          refine (does_as F5.out B5.out FB.out o HO.out KA2 kc2 HC2.out HLE2.out).mono ?_
          rintro e w6 ⟨q, S', rfl, h1, h2, h3, h4⟩
          have D6 := Aside0.mk (h2.low HK2.out)
          have DL := Aside0.mk h2.len
          have F6 := Aside0.mk h1
          have B6 := Aside0.mk h4
          have HI6 := Aside0.mk (R_turn HI5.out h3 LT.out)
          clear h1 h2 h3 h4 x0 x1 x2 x3
          have HC6 := Aside0.mk (show S'.calls = c + 1 by rw [D6.out.1, HCc.out]; unfold wrap64; omega)
          have hwr : IntKind.i64.wrap (c + 1) = c + 1 := IntWalk.i64_in _ (by omega)
          have hq : q = 14 := D6.out.2.1.2 T0.out
          subst hq
          have IM6 := Aside0.mk (D6.out.2.2.1 T0.out)
          go_wp2_with fail
          refine (Calls_as F6.out (c + 1) HC6.out).mono ?_
          rintro e w' ⟨rfl, rfl⟩
          go_wp2_with fail
          refine (Image_as F6.out _ IM6.out.2).mono ?_
          rintro e w7 ⟨A7, c7, rfl, hR, hb⟩
          have HI7 := Aside0.mk (Kd.R_below HI6.out hb)
          have HR7 := Aside0.mk hR
          have F7 := Aside0.mk (F6.out.below hb)
          have B7 := Aside0.mk (B6.out.trans (hb.mono B6.out.size))
          clear hR hb
          go_wp2_with fail
          refine (Same_calls S.image (by have := MF.out.ok.len; simp [MS.image]; omega) _ _ c5 _ _ c7 (Kd.R_reads' HI7.out).2.2 (Kd.R_reads' HI7.out).2.1 (Kd.R_reads' HR7.out).2.2 (Kd.R_reads' HR7.out).2.1).mono ?_
          rintro e w8 ⟨rfl, hb⟩
          have F8 := Aside0.mk (F7.out.below hb)
          have B8 := Aside0.mk (B7.out.trans (hb.mono B7.out.size))
          clear hb
          go_wp2
          go_roundw
          case rel => exact ⟨k + 1, S', by omega, by go_num, F8.out, by rw [DL.out]; exact SL.out, by rw [HC6.out]; omega, by rw [HC6.out]; omega, by rw [HC6.out, IM6.out.1]; have := of_decide_eq_true g5; omega, B8.out⟩
          case measure => simp [intOf]; omega
        · have g5 : decide (m ≤ c) = false := decide_eq_false hmc
          have hmc' : c < m := by omega
          have T0 := Aside0.mk (show 0 < S.til by rw [TI.out]; omega)
          clear hmc
          go_wp2_with fail
          refine (Image_as F4.out _ rfl).mono ?_
          rintro e w5 ⟨A5, c5, rfl, hR, hb⟩
          have HI5 := Aside0.mk hR
          have F5 := Aside0.mk (F4.out.below hb)
          have B5 := Aside0.mk (B4.out.trans (hb.mono B4.out.size))
          have LT := Aside0.mk F4.out.lts
          clear hR hb
          go_wp2_with fail
          refine (Calls_as F5.out c HCc.out).mono ?_
          rintro e w' ⟨rfl, rfl⟩
          obtain ⟨o2, ad2, KA2, kc2, ho2, hok2, hA2, x0, x1, x2, x3, hle2, hC2⟩ := HT.out.at B5.out k hlt
          obtain rfl : o = o2 := Option.some.inj (HO1.out.symm.trans ho2)
          obtain rfl : ad = ad2 := Option.some.inj hA2
          have HC2 := Aside0.mk hC2
          have HLE2 := Aside0.mk hle2
          clear ho2 hok2 hA2 hle2 hC2
          go_wp2_with fail
          refine (does_as F5.out B5.out FB.out o HO.out KA2 kc2 HC2.out HLE2.out).mono ?_
          rintro e w6 ⟨q, S', rfl, h1, h2, h3, h4⟩
          have D6 := Aside0.mk (h2.low HK2.out)
          have DL := Aside0.mk h2.len
          have F6 := Aside0.mk h1
          have B6 := Aside0.mk h4
          have HI6 := Aside0.mk (R_turn HI5.out h3 LT.out)
          clear h1 h2 h3 h4 x0 x1 x2 x3
          have HC6 := Aside0.mk (show S'.calls = c + 1 by rw [D6.out.1, HCc.out]; unfold wrap64; omega)
          have hwr : IntKind.i64.wrap (c + 1) = c + 1 := IntWalk.i64_in _ (by omega)
          have hq : (q == 14) = false := by simp; intro e; have h1 := D6.out.2.1.1 e; have h2 := T0.out; omega
          go_wp2_with fail
          refine (Calls_as F6.out (c + 1) HC6.out).mono ?_
          rintro e w' ⟨rfl, rfl⟩
          go_wp2
          go_roundw
          case rel => exact ⟨k + 1, S', by omega, by go_num, F6.out, by rw [DL.out]; exact SL.out, by rw [HC6.out]; omega, by rw [HC6.out]; omega, by rw [HC6.out, D6.out.2.2.2 T0.out, TI.out]; omega, B6.out⟩
          case measure => simp [intOf]; omega
    · obtain rfl : k = n := by omega
      clear hlt hk
      go_wp2_with fail
      refine (Crash_calls MF.out none 0 [] (bools_nil _ _) (by simp)).mono ?_
      rintro e w4 ⟨rfl, ⟨S4, h4, hc4⟩, t4⟩
      have F4 := Aside0.mk h4
      have OK := Aside0.mk (store_ok hc4.til (hc4.len.trans SL.out))
      have B4 := Aside0.mk (BR.out.trans (t4.below BR.out.size FB.out))
      clear h4 hc4 t4
      go_wp2_with fail
      refine (Store_as F4.out 0 9 (by unfold oki; omega) (by unfold okw; omega) 0 OK.out.1).mono ?_
      rintro e w5 ⟨rfl, h5, t5⟩
      have F5 := Aside0.mk h5
      have B5 := Aside0.mk (B4.out.trans (t5.below B4.out.size FB.out))
      clear h5 t5
      go_wp2_with fail
      refine (Read_as F5.out 0 (by unfold oki; omega) 9 OK.out.2).mono ?_
      rintro e w' ⟨rfl, rfl⟩
      go_wp2
      go_ret
      exact ⟨rfl, B5.out⟩
end Go.Proofs.Ytifdinoioddnlaa.Mem
