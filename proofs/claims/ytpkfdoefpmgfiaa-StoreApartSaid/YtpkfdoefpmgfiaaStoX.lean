/- StoA, StoB, StoC, StoD, StoE, StoP in one text. -/
import Derived.Test.YtpkfdoefpmgfiaaViewY
import Derived.Test.YtpkfdoefpmgfiaaCpX
import Derived.Test.YtpkfdoefpmgfiaaPrint3
namespace Go.Proofs.Ytpkfdoefpmgfiaa.Sto
open Go Go.RowKit Go.Proofs.Ytpkfdoefpmgfiaa.ML Go.Proofs.Ytpkfdoefpmgfiaa.Mem Go.Proofs.Ytpkfdoefpmgfiaa.Vw Go.Proofs.Ytpkfdoefpmgfiaa.Print Go.Proofs.YtpkfdoefpmgfiaaW.PrintWords Go.Proofs.YtpkfdoefpmgfiaaW.PrintLast Go.Proofs.YtpkfdoefpmgfiaaW.PrintMore
set_option linter.unusedVariables false
set_option linter.unusedSimpArgs false
theorem C_none (w : World) : Kd.C (Kd.int .u64) w none 0 [] := ⟨rfl, by decide, fun h => absurd h (by simp)⟩
/-- A block that was taken. -/
def VS.take (V : VS) (b node : Int) : VS := (V.put (200 + b) (node + 1)).puts (1288 + 16 * b) (padB [])
theorem Write_as {w : World} {q : Vp} {f : Fp} {V : VS} (h : IsView w q f V) (i v : Int) (hi : oki i) (hv : okw v) (ho : PlanF.openB i = true) : Calls Try.prog 34 #[vptr q, .int .i64 i, .int .u64 v] w fun e w' =>
    e = .returned (.int .i64 0) ∧ IsView w' q f (V.put i v) ∧ Turn [q.bo] w w' := by
  have := Write_calls h i v hi hv
  rw [ho] at this
  exact this
theorem open_owner {b : Int} (h : 0 ≤ b ∧ b < 96) : PlanF.openB (200 + b) = true := by unfold PlanF.openB; exact decide_eq_true (by omega)
set_option maxHeartbeats 2000000 in
set_option maxRecDepth 100000 in
theorem Take_some {w : World} {q : Vp} {f : Fp} {V : VS} {S : MS} (h : IsView w q f V) (hm : IsMem w f S) (node : Int) (hn : 0 ≤ node ∧ node < 24) (m : Nat) (hm96 : m < 96) (hno : ∀ j : Nat, j < m → V.fresh S j = false) (hyes : V.fresh S m = true) :
    Calls Try.prog 13 #[vptr q, .int .i64 node] w fun e w' => e = .returned (.tuple #[.int .i64 m, .int .i64 0]) ∧ IsView w' q f (VS.take V m node) ∧ Turn [q.bo] w w' := by
  have ho := fun w => plan_Card.calls 7 node (8 + 8 * node) 0 w (by rw [PlanF.Card_f, PlanF.Card, if_pos hn])
  have hw := fun w => plan_Owner.calls 7 m (200 + m) 0 w (by rw [PlanF.Owner_f, PlanF.Owner, if_pos (by omega)])
  have HV := Aside0.mk h
  have HM := Aside0.mk hm
  have HO := Aside0.mk ho
  have HW := Aside0.mk hw
  have HN := Aside0.mk hno
  have HY := Aside0.mk hyes
  have HI := Aside0.mk hn
  have HL := Aside0.mk hm96
  have q1 : IntKind.i64.wrap (node + 1) = node + 1 := by simp [IntKind.wrap, IntKind.signed, IntKind.bits]; omega
  have q2 : IntKind.u64.wrap (node + 1) = node + 1 := by simp [IntKind.wrap, IntKind.signed, IntKind.bits]; omega
  clear h hm ho hw hno hyes hn
  go_enter Try.func13, Try.ntmps13
  go_wp2_with (go_at_call 19; refine (HO.out _).mono ?_; rintro e w1 ⟨rfl, hb⟩; have V1 := Aside0.mk (HV.out.below hb); have M1 := Aside0.mk (HM.out.below hb); have B1 := Aside0.mk hb; clear hb)
  clear HV HM HO
  go_loopw [23] (fun x wr => ∃ j : Nat, j ≤ m ∧ x = .int .i64 (j : Int) ∧ IsView wr q f V ∧ IsMem wr f S ∧ Below w.heap.size w wr) (fun x _ => 100 - (intOf x).toNat)
  case atStart => exact ⟨0, by omega, rfl, V1.out, M1.out, B1.out⟩
  case round =>
    obtain ⟨j, hj, rfl, hv, hmm, hb⟩ := hrel
    have VV := Aside0.mk hv
    have MM := Aside0.mk hmm
    have BB := Aside0.mk hb
    have HJ := Aside0.mk (show oki (j : Int) by unfold oki; omega)
    have g1 : decide ((j : Int) < 96) = true := decide_eq_true (by omega)
    clear hv hmm hb V1 M1 B1
    by_cases hlt : j < m
    · have HF := Aside0.mk (HN.out j hlt)
      go_wp2_with (go_at_call 32; refine (Fresh_as VV.out MM.out _ HJ.out false HF.out).mono ?_; rintro e w2 ⟨rfl, hb⟩; have V2 := Aside0.mk (VV.out.below hb); have M2 := Aside0.mk (MM.out.below hb); have B2 := Aside0.mk (BB.out.trans (hb.mono BB.out.size)); clear hb)
      go_roundw
      case rel => exact ⟨j + 1, by omega, by go_num, V2.out, M2.out, B2.out⟩
      case measure => simp [intOf]; omega
    · obtain rfl : j = m := by omega
      go_wp2_with (first
        | (go_at_call 32; refine (Fresh_as VV.out MM.out _ HJ.out true HY.out).mono ?_; rintro e w2 ⟨rfl, hb⟩; have V2 := Aside0.mk (VV.out.below hb); have B2 := Aside0.mk (BB.out.trans (hb.mono BB.out.size)); clear hb)
        | (go_at_call 33; refine (HW.out _).mono ?_; rintro e w3 ⟨rfl, hb⟩; have V3 := Aside0.mk (V2.out.below hb); have B3 := Aside0.mk (B2.out.trans (hb.mono B2.out.size)); clear hb)
        | (go_at_call 34; refine (Write_as V3.out (200 + (j : Int)) (node + 1) (by unfold oki; omega) (by have := HI.out; unfold okw; omega) (open_owner (by omega))).mono ?_; rintro e w4 ⟨rfl, r1, r2⟩; have V4 := Aside0.mk r1; have T4 := Aside0.mk ((Turn.of_below B3.out _).trans r2); clear r1 r2)
        | (go_at_call 35; refine (SetBlock_calls (l := []) V4.out (j : Int) (C_none _) (by omega) (by simp) (by simp)).mono ?_; rintro e w5 ⟨rfl, r1, r2⟩; have V5 := Aside0.mk r1; have T5 := Aside0.mk (T4.out.trans r2); clear r1 r2))
      go_returns
      exact ⟨rfl, V5.out, T5.out⟩
set_option maxHeartbeats 2000000 in
set_option maxRecDepth 100000 in
theorem Take_none {w : World} {q : Vp} {f : Fp} {V : VS} {S : MS} (h : IsView w q f V) (hm : IsMem w f S) (node : Int) (hn : 0 ≤ node ∧ node < 24) (hno : ∀ j : Nat, j < 96 → V.fresh S j = false) :
    Calls Try.prog 13 #[vptr q, .int .i64 node] w fun e w' => e = .returned (.tuple #[.int .i64 0, .int .i64 9]) ∧ Below w.heap.size w w' := by
  have ho := fun w => plan_Card.calls 7 node (8 + 8 * node) 0 w (by rw [PlanF.Card_f, PlanF.Card, if_pos hn])
  have HV := Aside0.mk h
  have HM := Aside0.mk hm
  have HO := Aside0.mk ho
  have HN := Aside0.mk hno
  clear h hm ho hno hn
  go_enter Try.func13, Try.ntmps13
  go_wp2_with (go_at_call 19; refine (HO.out _).mono ?_; rintro e w1 ⟨rfl, hb⟩; have V1 := Aside0.mk (HV.out.below hb); have M1 := Aside0.mk (HM.out.below hb); have B1 := Aside0.mk hb; clear hb)
  clear HV HM HO
  go_loopw [23] (fun x wr => ∃ j : Nat, j ≤ 96 ∧ x = .int .i64 (j : Int) ∧ IsView wr q f V ∧ IsMem wr f S ∧ Below w.heap.size w wr) (fun x _ => 100 - (intOf x).toNat)
  case atStart => exact ⟨0, by omega, rfl, V1.out, M1.out, B1.out⟩
  case round =>
    obtain ⟨j, hj, rfl, hv, hmm, hb⟩ := hrel
    have VV := Aside0.mk hv
    have MM := Aside0.mk hmm
    have BB := Aside0.mk hb
    have HJ := Aside0.mk (show oki (j : Int) by unfold oki; omega)
    clear hv hmm hb V1 M1 B1
    by_cases hlt : j < 96
    · have HF := Aside0.mk (HN.out j hlt)
      have g1 : decide ((j : Int) < 96) = true := decide_eq_true (by omega)
      go_wp2_with (go_at_call 32; refine (Fresh_as VV.out MM.out _ HJ.out false HF.out).mono ?_; rintro e w2 ⟨rfl, hb⟩; have V2 := Aside0.mk (VV.out.below hb); have M2 := Aside0.mk (MM.out.below hb); have B2 := Aside0.mk (BB.out.trans (hb.mono BB.out.size)); clear hb)
      go_roundw
      case rel => exact ⟨j + 1, by omega, by go_num, V2.out, M2.out, B2.out⟩
      case measure => simp [intOf]; omega
    · have g1 : decide ((j : Int) < 96) = false := decide_eq_false (by omega)
      go_wp2
      go_returns
      exact ⟨rfl, BB.out⟩
/-- How many blocks are free. -/
def VS.free (V : VS) (S : MS) (n : Nat) : Nat := ((List.range n).filter fun (b : Nat) => V.fresh S b).length
theorem VS.free_le (V : VS) (S : MS) (n : Nat) : VS.free V S n ≤ n := by
  have := List.length_filter_le (fun (b : Nat) => V.fresh S b) (List.range n)
  simpa [VS.free] using this
theorem VS.free_succ (V : VS) (S : MS) (n : Nat) : VS.free V S (n + 1) = VS.free V S n + (if V.fresh S n then 1 else 0) := by
  unfold VS.free
  rw [List.range_succ, List.filter_append, List.length_append]
  by_cases h : V.fresh S n <;> simp [h]
set_option maxHeartbeats 2000000 in
set_option maxRecDepth 100000 in
theorem Free_calls {w : World} {q : Vp} {f : Fp} {V : VS} {S : MS} (h : IsView w q f V) (hm : IsMem w f S) :
    Calls Try.prog 15 #[vptr q] w fun e w' => e = .returned (.int .i64 (VS.free V S 96 : Nat)) ∧ Below w.heap.size w w' := by
  have HV := Aside0.mk h
  have HM := Aside0.mk hm
  clear h hm
  go_enter Try.func15, Try.ntmps15
  go_wp2
  go_loopw [3, 5] (fun y x wr => ∃ j : Nat, j ≤ 96 ∧ x = .int .i64 (j : Int) ∧ y = .int .i64 ((VS.free V S j : Nat) : Int) ∧ IsView wr q f V ∧ IsMem wr f S ∧ Below w.heap.size w wr) (fun y x _ => 100 - (intOf x).toNat)
  case atStart => exact ⟨0, by omega, rfl, rfl, HV.out, HM.out, Below.refl _ _⟩
  case round =>
    obtain ⟨j, hj, rfl, rfl, hv, hmm, hb⟩ := hrel
    have VV := Aside0.mk hv
    have MM := Aside0.mk hmm
    have BB := Aside0.mk hb
    have HJ := Aside0.mk (show oki (j : Int) by unfold oki; omega)
    have HS := Aside0.mk (VS.free_succ V S j)
    have hle := VS.free_le V S j
    clear hv hmm hb HV HM
    by_cases hlt : j < 96
    · obtain ⟨b, hfr⟩ : ∃ b, V.fresh S j = b := ⟨_, rfl⟩
      have HF := Aside0.mk hfr
      have g1 : decide ((j : Int) < 96) = true := decide_eq_true (by omega)
      clear hfr
      cases b
      · go_wp2_with (go_at_call 32; refine (Fresh_as VV.out MM.out _ HJ.out false HF.out).mono ?_; rintro e w2 ⟨rfl, hb⟩; have V2 := Aside0.mk (VV.out.below hb); have M2 := Aside0.mk (MM.out.below hb); have B2 := Aside0.mk (BB.out.trans (hb.mono BB.out.size)); clear hb)
        go_roundw
        case rel =>
          refine ⟨j + 1, by omega, by go_num, ?_, V2.out, M2.out, B2.out⟩
          have := HS.out
          rw [HF.out] at this
          simp at this
          rw [this]
        case measure => simp [intOf]; omega
      · go_wp2_with (go_at_call 32; refine (Fresh_as VV.out MM.out _ HJ.out true HF.out).mono ?_; rintro e w2 ⟨rfl, hb⟩; have V2 := Aside0.mk (VV.out.below hb); have M2 := Aside0.mk (MM.out.below hb); have B2 := Aside0.mk (BB.out.trans (hb.mono BB.out.size)); clear hb)
        go_roundw
        case rel =>
          refine ⟨j + 1, by omega, by go_num, ?_, V2.out, M2.out, B2.out⟩
          have := HS.out
          rw [HF.out] at this
          simp at this
          rw [this]
          go_num
        case measure => simp [intOf]; omega
    · obtain rfl : j = 96 := by omega
      go_wp2
      go_ret
      exact ⟨rfl, BB.out⟩
end Go.Proofs.Ytpkfdoefpmgfiaa.Sto
namespace Go.Proofs.Ytpkfdoefpmgfiaa.Sto
open Go Go.RowKit Go.Proofs.Ytpkfdoefpmgfiaa.ML Go.Proofs.Ytpkfdoefpmgfiaa.Mem Go.Proofs.Ytpkfdoefpmgfiaa.Vw Go.Proofs.Ytpkfdoefpmgfiaa.Print Go.Proofs.YtpkfdoefpmgfiaaW.PrintWords Go.Proofs.YtpkfdoefpmgfiaaW.PrintLast Go.Proofs.YtpkfdoefpmgfiaaW.PrintMore
set_option linter.unusedVariables false
set_option linter.unusedSimpArgs false
/-! ### words that are -/
theorem now_ok {c : Cell} (h : c.ok) : okw c.now := by
  unfold Cell.now
  cases hl : c.loose with
  | none => simpa [hl] using h.1
  | some v => simpa [hl] using h.2.1 v hl
theorem sread_ok {S : MS} (h : S.Ok) (i : Int) : okw (S.read i) := by
  unfold MS.read
  split
  · exact now_ok (h.at i)
  · unfold okw; omega
theorem vread_ok {V : VS} {S : MS} (h : V.Ok) (hs : S.Ok) (i : Int) : okw (V.read S i) := by
  unfold VS.read
  cases hg : get V.own i with
  | none => exact sread_ok hs i
  | some v => exact (h.own _ (get_some_mem hg)).2.2
/-! ### cards, over lists alone -/
def freshC (kd ver : Int) : Crd := ⟨kd, 1, 0, ver, -1, -1, -1, -1, -1, -1⟩
def cardW (kd lk ver : Int) : List Int := [kd + lk * 256, ver, 0, 0, 0, 0, 0, 0]
theorem fresh_f (kd ver : Int) (h : kd = 1 ∨ kd = 2 ∨ kd = 3) : cards_Fresh.f 7 kd ver = some (kd, 1, 0, ver, -1, -1, -1, -1, -1, -1, 0) := by
  rcases h with rfl | rfl | rfl <;> kernel_rfl
theorem fresh_right (kd ver : Int) (h : kd = 1 ∨ kd = 2 ∨ kd = 3) : rightB kd 1 0 ver (-1) (-1) (-1) (-1) (-1) (-1) = true := by
  rcases h with rfl | rfl | rfl <;> rfl
theorem enc_fresh (kd ver : Int) : Cp.enc kd 1 0 ver (-1) (-1) (-1) (-1) (-1) (-1) = cardW kd 1 ver := by simp [Cp.enc, cardW]
theorem write_fresh (kd ver : Int) (h : kd = 1 ∨ kd = 2 ∨ kd = 3) : ∃ k, cards_Write.f k kd 1 0 ver (-1) (-1) (-1) (-1) (-1) (-1) = some (cardW kd 1 ver, 0) := by
  have := (Cp.Write_ev kd 1 0 ver (-1) (-1) (-1) (-1) (-1) (-1)).rounds
  unfold Cp.encR at this
  rw [if_pos (fresh_right kd ver h), enc_fresh] at this
  exact this
theorem get8 (x : Int) (h : okw x) : words_Get.f x 0 8 = some (x % 256, 0) := by
  obtain ⟨n, rfl⟩ := Int.eq_ofNat_of_zero_le h.1
  have h2 := h.2
  have := Cp.Get_yes (w := n) (a := 0) (b := 8) (by omega) (by unfold Cp.okF; omega)
  unfold Cp.getN at this
  simpa using this
/-! ### Owner, Drop -/
set_option maxHeartbeats 1000000 in
theorem owner_ok (w : World) (q : Vp) (b : Int) (hb : 0 ≤ b ∧ b < 96) : Calls Try.prog 38 #[vptr q, .int .i64 b] w fun e w' => e = .returned (.tuple #[.int .i64 (200 + b), .int .i64 0]) ∧ Below w.heap.size w w' := by
  have HO := Aside0.mk (fun w => plan_Owner.calls 7 b (200 + b) 0 w (by rw [PlanF.Owner_f, PlanF.Owner, if_pos hb]))
  clear hb
  go_enter Try.func38, Try.ntmps38
  go_wp2_with (go_at_call 33; refine (HO.out _).mono ?_; rintro e w1 ⟨rfl, hb⟩; have B1 := Aside0.mk hb; clear hb)
  go_returns
  exact ⟨rfl, B1.out⟩
set_option maxHeartbeats 1000000 in
theorem Owner_ok {w : World} {q : Vp} {f : Fp} {V : VS} {S : MS} (h : IsView w q f V) (hm : IsMem w f S) (b x : Int) (hb : 0 ≤ b ∧ b < 96) (hx : V.read S (200 + b) = x) (h0 : 0 ≤ x ∧ x ≤ 24) :
    Calls Try.prog 17 #[vptr q, .int .i64 b] w fun e w' => e = .returned (.tuple #[.int .i64 (x - 1), .int .i64 0]) ∧ Below w.heap.size w w' := by
  have HO := Aside0.mk (owner_ok w q b hb)
  have HI := Aside0.mk (show oki (200 + b) by unfold oki; omega)
  have HV := Aside0.mk h
  have HM := Aside0.mk hm
  have HX := Aside0.mk hx
  have q1 : IntKind.i64.wrap x = x := by simp [IntKind.wrap, IntKind.signed, IntKind.bits]; omega
  have q2 : IntKind.i64.wrap (x - 1) = x - 1 := by simp [IntKind.wrap, IntKind.signed, IntKind.bits]; omega
  have g1 : decide (24 < x) = false := decide_eq_false (by omega)
  clear hb h hm hx h0
  go_enter Try.func17, Try.ntmps17
  go_wp2_with (first
    | (go_at_call 38; refine HO.out.mono ?_; rintro e w1 ⟨rfl, hb⟩; have V1 := Aside0.mk (HV.out.below hb); have M1 := Aside0.mk (HM.out.below hb); have B1 := Aside0.mk hb; clear hb)
    | (go_at_call 29; refine (Read_as V1.out M1.out _ HI.out x HX.out).mono ?_; rintro e w2 ⟨rfl, rfl⟩))
  go_returns
  exact ⟨by first | rfl | (simp only [q1, q2]; done) | (simp only [q1, q2]; rfl), B1.out⟩
end Go.Proofs.Ytpkfdoefpmgfiaa.Sto
namespace Go.Proofs.Ytpkfdoefpmgfiaa.Sto
open Go Go.RowKit Go.Proofs.Ytpkfdoefpmgfiaa.ML Go.Proofs.Ytpkfdoefpmgfiaa.Mem Go.Proofs.Ytpkfdoefpmgfiaa.Vw Go.Proofs.Ytpkfdoefpmgfiaa.Print Go.Proofs.YtpkfdoefpmgfiaaW.PrintWords Go.Proofs.YtpkfdoefpmgfiaaW.PrintLast Go.Proofs.YtpkfdoefpmgfiaaW.PrintMore
set_option linter.unusedVariables false
set_option linter.unusedSimpArgs false
theorem AvoidsNode_as {w : World} {q : Vp} {f : Fp} {V : VS} (h : IsView w q f V) (i : Int) (hi : oki i) (b : Bool) (hb : noted V.awayN i = b) : Calls Try.prog 30 #[vptr q, .int .i64 i] w fun e w' => e = .returned (.bool b) ∧ w = w' := by
  rw [← hb]
  exact AvoidsNode_calls h i hi
theorem cFresh_ok (kd ver : Int) (h : kd = 1 ∨ kd = 2 ∨ kd = 3) (w : World) : Calls Try.prog 27 #[.int .i64 kd, .int .u64 ver] w fun e w' => e = .returned (.tuple #[(freshC kd ver).val, .int .i64 0]) ∧ Below w.heap.size w w' :=
  cards_Fresh.calls 7 kd ver _ _ _ _ _ _ _ _ _ _ _ w (fresh_f kd ver h)
theorem wGet_as (x : Int) (u : Int) (h : okw x) (hu : x % 256 = u) (w : World) : Calls Try.prog 28 #[.int .u64 x, .int .i64 0, .int .i64 8] w fun e w' => e = .returned (.tuple #[.int .u64 u, .int .i64 0]) ∧ Below w.heap.size w w' := by
  rw [← hu]
  exact (words_Get.calls x 0 8 _ _ w (get8 x h)).mono fun e w' h => ⟨h.1, h.2.below⟩
/-- Is a number used, or to be left alone? -/
def VS.usedN (V : VS) (S : MS) (j : Int) : Bool := (V.read S (8 + 8 * j) % 256 != 0) || noted V.awayN j
/-- What a number that was taken holds. -/
def VS.node (V : VS) (S : MS) (j kd : Int) : VS := V.set j (cardW kd 1 ((V.read S (9 + 8 * j) + 1) % 18446744073709551616))
theorem cardW_ok {kd lk ver : Int} (h0 : 0 ≤ kd ∧ kd < 256) (h1 : 0 ≤ lk ∧ lk < 256) (h2 : okw ver) : ∀ v ∈ cardW kd lk ver, okw v := by
  intro v hv
  unfold okw at *
  simp [cardW] at hv
  rcases hv with rfl | rfl | rfl <;> omega
end Go.Proofs.Ytpkfdoefpmgfiaa.Sto
namespace Go.Proofs.Ytpkfdoefpmgfiaa.Sto
open Go Go.RowKit Go.Proofs.Ytpkfdoefpmgfiaa.ML Go.Proofs.Ytpkfdoefpmgfiaa.Mem Go.Proofs.Ytpkfdoefpmgfiaa.Vw Go.Proofs.Ytpkfdoefpmgfiaa.Print Go.Proofs.YtpkfdoefpmgfiaaW.PrintWords Go.Proofs.YtpkfdoefpmgfiaaW.PrintLast Go.Proofs.YtpkfdoefpmgfiaaW.PrintMore
set_option linter.unusedVariables false
set_option linter.unusedSimpArgs false
theorem Set_as {w : World} {q : Vp} {f : Fp} {V : VS} (h : IsView w q f V) (i : Int) (hi : 0 ≤ i ∧ i < 24) (c : Crd) (l : List Int) (hf : ∃ k, cards_Write.f k c.k c.l c.s c.v c.d0 c.d1 c.d2 c.d3 c.d4 c.m = some (l, 0)) (hl : l.length = 8) (hw : ∀ v ∈ l, okw v) :
    Calls Try.prog 31 #[vptr q, .int .i64 i, c.val] w fun e' w' => e' = .returned (.int .i64 0) ∧ IsView w' q f (V.set i l) ∧ Turn [q.bo, q.bs, q.bm] w w' := by
  obtain ⟨k, hk⟩ := hf
  exact Set_calls h i hi k c l hk hl hw
theorem pCard_as (j : Int) (h : 0 ≤ j ∧ j < 24) (w : World) : Calls Try.prog 19 #[.int .i64 j] w fun e w' => e = .returned (.tuple #[.int .i64 (8 + 8 * j), .int .i64 0]) ∧ Below w.heap.size w w' :=
  plan_Card.calls 7 j (8 + 8 * j) 0 w (by rw [PlanF.Card_f, PlanF.Card, if_pos h])
set_option maxHeartbeats 4000000 in
set_option maxRecDepth 100000 in
theorem Node_some {w : World} {q : Vp} {f : Fp} {V : VS} {S : MS} (h : IsView w q f V) (hm : IsMem w f S) (kd : Int) (hk : kd = 1 ∨ kd = 2 ∨ kd = 3) (m : Nat) (hm24 : 2 ≤ m ∧ m < 24) (hno : ∀ j : Nat, 2 ≤ j → j < m → VS.usedN V S j = true) (hyes : VS.usedN V S m = false) :
    Calls Try.prog 12 #[vptr q, .int .i64 kd] w fun e w' => e = .returned (.tuple #[.int .i64 m, .int .i64 0]) ∧ IsView w' q f (VS.node V S m kd) ∧ Turn [q.bo, q.bs, q.bm] w w' := by
  have HF := Aside0.mk (cFresh_ok kd · hk)
  have HF0 := Aside0.mk (cFresh_ok kd 0 hk)
  have HK := Aside0.mk hk
  have HV := Aside0.mk h
  have HM := Aside0.mk hm
  have HN := Aside0.mk hno
  have HY := Aside0.mk hyes
  clear h hm hk hno hyes
  go_enter Try.func12, Try.ntmps12
  go_wp2_with (first
    | (go_at_call 27; refine (HF0.out _).mono ?_; rintro e w1 ⟨rfl, hb⟩; have B1 := Aside0.mk hb; clear hb)
    | ((with_reducible refine gate_dst (N := 6) rfl ?_); refine box_event ?hg (N := 6) ?hd (cs := zeroCrd.cells.toArray) (t := 44) ?hr ?_; (case hd => rfl); (case hg => rfl); (case hr => first | (go_simp; done) | (go_simp; rfl)); intro g hg w2 hbox hb; have X2 := Aside0.mk hbox; have G2 := Aside0.mk (show w.heap.size ≤ g by rw [hg]; exact B1.out.size); have B2 := Aside0.mk (B1.out.trans (hb.mono B1.out.size)); clear hb hbox hg)
    | ((with_reducible refine gate_store (t := 44) (p := 6) rfl ?_); obtain ⟨w6, hs, hb6, t6⟩ := store_card X2.out rfl (freshC kd 0); refine store_event (t := 44) (p := 6) (w1 := w6) rfl rfl rfl (pr_store_exec rfl rfl rfl hs) ?_; intro w7 hw7; rw [← hw7] at t6; have B7 := Aside0.mk (show Below w.heap.size w w7 from B2.out.trans (t6.below B2.out.size (fun x hx => by have h2 := G2.out; simp at hx; omega))); clear hs hb6 t6 hw7))
  have V7 := Aside0.mk (HV.out.below B7.out)
  have M7 := Aside0.mk (HM.out.below B7.out)
  clear X2 G2 B2 B1 HV HM HF0
  go_loopw [8] (fun x wr => ∃ j : Nat, 2 ≤ j ∧ j ≤ m ∧ x = .int .i64 (j : Int) ∧ IsView wr q f V ∧ IsMem wr f S ∧ Below w.heap.size w wr) (fun x _ => 100 - (intOf x).toNat)
  case atStart => exact ⟨2, by omega, by omega, rfl, V7.out, M7.out, B7.out⟩
  case round =>
    obtain ⟨j, hj2, hj, rfl, hv, hmm, hb⟩ := hrel
    have VV := Aside0.mk hv
    have MM := Aside0.mk hmm
    have BB := Aside0.mk hb
    have HJ := Aside0.mk (show oki (j : Int) by unfold oki; omega)
    obtain ⟨a8, ha8⟩ : ∃ a8, 8 + 8 * (j : Int) = a8 := ⟨_, rfl⟩
    have HJ8 := Aside0.mk (show oki a8 by unfold oki; omega)
    have H88 := Aside0.mk ha8
    have g1 : decide ((j : Int) < 24) = true := decide_eq_true (by omega)
    have hc0 := fun w => pCard_as (j : Int) (by omega) w
    simp only [ha8] at hc0
    have HC := Aside0.mk hc0
    clear hc0
    obtain ⟨x, hx⟩ : ∃ x, V.read S a8 = x := ⟨_, rfl⟩
    obtain ⟨u, hu⟩ : ∃ u, x % 256 = u := ⟨_, rfl⟩
    obtain ⟨b, hab⟩ : ∃ b, noted V.awayN (j : Int) = b := ⟨_, rfl⟩
    have HXO := Aside0.mk (show okw x by rw [← hx]; exact vread_ok hv.ok hmm.ok _)
    have HE := Aside0.mk (show VS.usedN V S j = ((u != 0) || b) by unfold VS.usedN; rw [ha8, hx, hu, hab])
    have HX := Aside0.mk hx
    have HU := Aside0.mk hu
    have HA := Aside0.mk hab
    clear hv hmm hb V7 M7 B7 hx hu hab ha8
    by_cases hlt : j < m
    · have hused := HE.out.symm.trans (HN.out j hj2 hlt)
      cases hu0 : (u != 0)
      · rw [hu0, Bool.false_or] at hused
        subst hused
        have hu1 : (u == 0) = true := by simpa using hu0
        go_wp2_with (first
          | (go_at_call 19; refine (HC.out _).mono ?_; rintro e w2 ⟨rfl, hb⟩; have V2 := Aside0.mk (VV.out.below hb); have M2 := Aside0.mk (MM.out.below hb); have B2 := Aside0.mk (BB.out.trans (hb.mono BB.out.size)); clear hb)
          | (go_at_call 29; refine (Read_as V2.out M2.out _ HJ8.out x HX.out).mono ?_; rintro e w3 ⟨rfl, rfl⟩)
          | (go_at_call 28; refine (wGet_as x u HXO.out HU.out _).mono ?_; rintro e w4 ⟨rfl, hb⟩; have V4 := Aside0.mk (V2.out.below hb); have M4 := Aside0.mk (M2.out.below hb); have B4 := Aside0.mk (B2.out.trans (hb.mono B2.out.size)); clear hb)
          | (go_at_call 30; refine (AvoidsNode_as V4.out _ HJ.out true HA.out).mono ?_; rintro e w3 ⟨rfl, rfl⟩))
        go_roundw
        case rel => exact ⟨j + 1, by omega, by omega, by go_num, V4.out, M4.out, B4.out⟩
        case measure => simp [intOf]; omega
      · have hu1 : (u == 0) = false := by simpa using hu0
        go_wp2_with (first
          | (go_at_call 19; refine (HC.out _).mono ?_; rintro e w2 ⟨rfl, hb⟩; have V2 := Aside0.mk (VV.out.below hb); have M2 := Aside0.mk (MM.out.below hb); have B2 := Aside0.mk (BB.out.trans (hb.mono BB.out.size)); clear hb)
          | (go_at_call 29; refine (Read_as V2.out M2.out _ HJ8.out x HX.out).mono ?_; rintro e w3 ⟨rfl, rfl⟩)
          | (go_at_call 28; refine (wGet_as x u HXO.out HU.out _).mono ?_; rintro e w4 ⟨rfl, hb⟩; have V4 := Aside0.mk (V2.out.below hb); have M4 := Aside0.mk (M2.out.below hb); have B4 := Aside0.mk (B2.out.trans (hb.mono B2.out.size)); clear hb))
        go_roundw
        case rel => exact ⟨j + 1, by omega, by omega, by go_num, V4.out, M4.out, B4.out⟩
        case measure => simp [intOf]; omega
    · obtain rfl : j = m := by omega
      have hused := HE.out.symm.trans HY.out
      rw [Bool.or_eq_false_iff] at hused
      obtain ⟨hu0, rfl⟩ := hused
      have hu1 : (u == 0) = true := by simpa using hu0
      obtain ⟨a9, ha9⟩ : ∃ a9, 9 + 8 * (j : Int) = a9 := ⟨_, rfl⟩
      have HJ9 := Aside0.mk (show oki a9 by unfold oki; omega)
      have ha8 := H88.out
      have q1 : IntKind.i64.wrap (a8 + 1) = a9 := by simp [IntKind.wrap, IntKind.signed, IntKind.bits]; omega
      obtain ⟨y, hy⟩ : ∃ y, V.read S a9 = y := ⟨_, rfl⟩
      have HYO := Aside0.mk (show okw y by rw [← hy]; exact vread_ok VV.out.ok MM.out.ok _)
      obtain ⟨z, hz⟩ : ∃ z, (y + 1) % 18446744073709551616 = z := ⟨_, rfl⟩
      have q2 : IntKind.u64.wrap (y + 1) = z := by rw [← hz]; simp [IntKind.wrap, IntKind.signed, IntKind.bits]
      have HZO := Aside0.mk (show okw z by rw [← hz]; unfold okw; omega)
      have HE2 := Aside0.mk (show VS.node V S (j : Int) kd = V.set (j : Int) (cardW kd 1 z) by unfold VS.node; rw [ha9, hy, hz])
      have HYY := Aside0.mk hy
      have HKW := Aside0.mk (cardW_ok (kd := kd) (lk := 1) (ver := z) (by have := HK.out; omega) (by omega) HZO.out)
      clear hy hz ha8 ha9
      go_wp2_with (first
        | (go_at_call 19; refine (HC.out _).mono ?_; rintro e w2 ⟨rfl, hb⟩; have V2 := Aside0.mk (VV.out.below hb); have M2 := Aside0.mk (MM.out.below hb); have B2 := Aside0.mk (BB.out.trans (hb.mono BB.out.size)); clear hb)
        | (go_at_call 29; refine (Read_as V4.out M4.out _ (by first | exact HJ9.out | (rw [q1]; exact HJ9.out)) y (by first | exact HYY.out | (rw [q1]; exact HYY.out))).mono ?_; rintro e w3 ⟨rfl, rfl⟩)
        | (go_at_call 29; refine (Read_as V2.out M2.out _ HJ8.out x HX.out).mono ?_; rintro e w3 ⟨rfl, rfl⟩)
        | (go_at_call 28; refine (wGet_as x u HXO.out HU.out _).mono ?_; rintro e w4 ⟨rfl, hb⟩; have V4 := Aside0.mk (V2.out.below hb); have M4 := Aside0.mk (M2.out.below hb); have B4 := Aside0.mk (B2.out.trans (hb.mono B2.out.size)); clear hb)
        | (go_at_call 30; refine (AvoidsNode_as V4.out _ HJ.out false HA.out).mono ?_; rintro e w3 ⟨rfl, rfl⟩)
        | (go_at_call 27; refine (HF.out z _).mono ?_; rintro e w5 ⟨rfl, hb⟩; have V5 := Aside0.mk (V4.out.below hb); have B5 := Aside0.mk (B4.out.trans (hb.mono B4.out.size)); clear hb)
        | ((with_reducible refine gate_dst (N := 13) rfl ?_); refine box_event ?hg (N := 13) ?hd (cs := zeroCrd.cells.toArray) (t := 44) ?hr ?_; (case hd => rfl); (case hg => rfl); (case hr => first | (go_simp; done) | (go_simp; rfl)); intro g hg w6 hbox hb; have X6 := Aside0.mk hbox; have V6 := Aside0.mk (V5.out.below hb); have G6 := Aside0.mk (show w5.heap.size ≤ g by rw [hg]; exact Nat.le_refl _); have B6 := Aside0.mk (B5.out.trans (hb.mono B5.out.size)); clear hb hbox hg)
        | ((with_reducible refine gate_store (t := 44) (p := 13) rfl ?_); obtain ⟨w8, hs, hb6, t6⟩ := store_card X6.out rfl (freshC kd z); refine store_event (t := 44) (p := 13) (w1 := w8) rfl rfl rfl (pr_store_exec rfl rfl rfl hs) ?_; intro w7 hw7; rw [← hw7] at t6 hb6; have V7 := Aside0.mk (V6.out.kept t6 (fun b hb => by have h1 := V5.out.lts b hb; have h2 := G6.out; simp; omega)); have B7 := Aside0.mk (show Below w.heap.size w w7 from B6.out.trans (t6.below B6.out.size (fun x hx => by have h2 := G6.out; have h3 := B5.out.size; simp at hx; omega)));
           have x0 := cell_of hb6 (o := 0) rfl; have x1 := cell_of hb6 (o := 1) rfl; have x2 := cell_of hb6 (o := 2) rfl; have x3 := cell_of hb6 (o := 3) rfl; have x4 := cell_of hb6 (o := 4) rfl; have x5 := cell_of hb6 (o := 5) rfl; have x6 := cell_of hb6 (o := 6) rfl; have x7 := cell_of hb6 (o := 7) rfl; have x8 := cell_of hb6 (o := 8) rfl; have x9 := cell_of hb6 (o := 9) rfl; clear hs hb6 t6 hw7)
        | (go_at_call 31; refine (Set_as V7.out (j : Int) (by omega) (freshC kd z) (cardW kd 1 z) (write_fresh kd z HK.out) rfl HKW.out).mono ?_; rintro e w9 ⟨rfl, r1, r2⟩; have V9 := Aside0.mk r1; have T9 := Aside0.mk ((Turn.of_below B7.out _).trans r2); clear r1 r2))
      go_returns
      exact ⟨rfl, by rw [HE2.out]; exact V9.out, T9.out⟩
end Go.Proofs.Ytpkfdoefpmgfiaa.Sto
namespace Go.Proofs.Ytpkfdoefpmgfiaa.Sto
open Go Go.RowKit Go.Proofs.Ytpkfdoefpmgfiaa.ML Go.Proofs.Ytpkfdoefpmgfiaa.Mem Go.Proofs.Ytpkfdoefpmgfiaa.Vw Go.Proofs.Ytpkfdoefpmgfiaa.Print Go.Proofs.YtpkfdoefpmgfiaaW.PrintWords Go.Proofs.YtpkfdoefpmgfiaaW.PrintLast Go.Proofs.YtpkfdoefpmgfiaaW.PrintMore
set_option linter.unusedVariables false
set_option linter.unusedSimpArgs false
set_option maxHeartbeats 4000000 in
set_option maxRecDepth 100000 in
theorem Node_none {w : World} {q : Vp} {f : Fp} {V : VS} {S : MS} (h : IsView w q f V) (hm : IsMem w f S) (kd : Int) (hk : kd = 1 ∨ kd = 2 ∨ kd = 3) (hno : ∀ j : Nat, 2 ≤ j → j < 24 → VS.usedN V S j = true) :
    Calls Try.prog 12 #[vptr q, .int .i64 kd] w fun e w' => e = .returned (.tuple #[.int .i64 0, .int .i64 9]) ∧ Below w.heap.size w w' := by
  have HF0 := Aside0.mk (cFresh_ok kd 0 hk)
  have HV := Aside0.mk h
  have HM := Aside0.mk hm
  have HN := Aside0.mk hno
  clear h hm hk hno
  go_enter Try.func12, Try.ntmps12
  go_wp2_with (first
    | (go_at_call 27; refine (HF0.out _).mono ?_; rintro e w1 ⟨rfl, hb⟩; have B1 := Aside0.mk hb; clear hb)
    | ((with_reducible refine gate_dst (N := 6) rfl ?_); refine box_event ?hg (N := 6) ?hd (cs := zeroCrd.cells.toArray) (t := 44) ?hr ?_; (case hd => rfl); (case hg => rfl); (case hr => first | (go_simp; done) | (go_simp; rfl)); intro g hg w2 hbox hb; have X2 := Aside0.mk hbox; have G2 := Aside0.mk (show w.heap.size ≤ g by rw [hg]; exact B1.out.size); have B2 := Aside0.mk (B1.out.trans (hb.mono B1.out.size)); clear hb hbox hg)
    | ((with_reducible refine gate_store (t := 44) (p := 6) rfl ?_); obtain ⟨w6, hs, hb6, t6⟩ := store_card X2.out rfl (freshC kd 0); refine store_event (t := 44) (p := 6) (w1 := w6) rfl rfl rfl (pr_store_exec rfl rfl rfl hs) ?_; intro w7 hw7; rw [← hw7] at t6; have B7 := Aside0.mk (show Below w.heap.size w w7 from B2.out.trans (t6.below B2.out.size (fun x hx => by have h2 := G2.out; simp at hx; omega))); clear hs hb6 t6 hw7))
  have V7 := Aside0.mk (HV.out.below B7.out)
  have M7 := Aside0.mk (HM.out.below B7.out)
  clear X2 G2 B2 B1 HV HM HF0
  go_loopw [8] (fun x wr => ∃ j : Nat, 2 ≤ j ∧ j ≤ 24 ∧ x = .int .i64 (j : Int) ∧ IsView wr q f V ∧ IsMem wr f S ∧ Below w.heap.size w wr) (fun x _ => 100 - (intOf x).toNat)
  case atStart => exact ⟨2, by omega, by omega, rfl, V7.out, M7.out, B7.out⟩
  case round =>
    obtain ⟨j, hj2, hj, rfl, hv, hmm, hb⟩ := hrel
    have VV := Aside0.mk hv
    have MM := Aside0.mk hmm
    have BB := Aside0.mk hb
    have HJ := Aside0.mk (show oki (j : Int) by unfold oki; omega)
    obtain ⟨a8, ha8⟩ : ∃ a8, 8 + 8 * (j : Int) = a8 := ⟨_, rfl⟩
    have HJ8 := Aside0.mk (show oki a8 by unfold oki; omega)
    obtain ⟨x, hx⟩ : ∃ x, V.read S a8 = x := ⟨_, rfl⟩
    obtain ⟨u, hu⟩ : ∃ u, x % 256 = u := ⟨_, rfl⟩
    obtain ⟨b, hab⟩ : ∃ b, noted V.awayN (j : Int) = b := ⟨_, rfl⟩
    have HXO := Aside0.mk (show okw x by rw [← hx]; exact vread_ok hv.ok hmm.ok _)
    have HE := Aside0.mk (show VS.usedN V S j = ((u != 0) || b) by unfold VS.usedN; rw [ha8, hx, hu, hab])
    have HX := Aside0.mk hx
    have HU := Aside0.mk hu
    have HA := Aside0.mk hab
    by_cases hlt : j < 24
    · have g1 : decide ((j : Int) < 24) = true := decide_eq_true (by omega)
      have hc0 := fun w => pCard_as (j : Int) (by omega) w
      simp only [ha8] at hc0
      have HC := Aside0.mk hc0
      clear hv hmm hb V7 M7 B7 hx hu hab ha8 hc0
      have hused := HE.out.symm.trans (HN.out j hj2 hlt)
      cases hu0 : (u != 0)
      · rw [hu0, Bool.false_or] at hused
        subst hused
        have hu1 : (u == 0) = true := by simpa using hu0
        go_wp2_with (first
          | (go_at_call 19; refine (HC.out _).mono ?_; rintro e w2 ⟨rfl, hb⟩; have V2 := Aside0.mk (VV.out.below hb); have M2 := Aside0.mk (MM.out.below hb); have B2 := Aside0.mk (BB.out.trans (hb.mono BB.out.size)); clear hb)
          | (go_at_call 29; refine (Read_as V2.out M2.out _ HJ8.out x HX.out).mono ?_; rintro e w3 ⟨rfl, rfl⟩)
          | (go_at_call 28; refine (wGet_as x u HXO.out HU.out _).mono ?_; rintro e w4 ⟨rfl, hb⟩; have V4 := Aside0.mk (V2.out.below hb); have M4 := Aside0.mk (M2.out.below hb); have B4 := Aside0.mk (B2.out.trans (hb.mono B2.out.size)); clear hb)
          | (go_at_call 30; refine (AvoidsNode_as V4.out _ HJ.out true HA.out).mono ?_; rintro e w3 ⟨rfl, rfl⟩))
        go_roundw
        case rel => exact ⟨j + 1, by omega, by omega, by go_num, V4.out, M4.out, B4.out⟩
        case measure => simp [intOf]; omega
      · have hu1 : (u == 0) = false := by simpa using hu0
        go_wp2_with (first
          | (go_at_call 19; refine (HC.out _).mono ?_; rintro e w2 ⟨rfl, hb⟩; have V2 := Aside0.mk (VV.out.below hb); have M2 := Aside0.mk (MM.out.below hb); have B2 := Aside0.mk (BB.out.trans (hb.mono BB.out.size)); clear hb)
          | (go_at_call 29; refine (Read_as V2.out M2.out _ HJ8.out x HX.out).mono ?_; rintro e w3 ⟨rfl, rfl⟩)
          | (go_at_call 28; refine (wGet_as x u HXO.out HU.out _).mono ?_; rintro e w4 ⟨rfl, hb⟩; have V4 := Aside0.mk (V2.out.below hb); have M4 := Aside0.mk (M2.out.below hb); have B4 := Aside0.mk (B2.out.trans (hb.mono B2.out.size)); clear hb))
        go_roundw
        case rel => exact ⟨j + 1, by omega, by omega, by go_num, V4.out, M4.out, B4.out⟩
        case measure => simp [intOf]; omega
    · have g1 : decide ((j : Int) < 24) = false := decide_eq_false (by omega)
      clear hv hmm hb V7 M7 B7 hx hu hab ha8
      go_wp2
      go_returns
      exact ⟨rfl, BB.out⟩
/-! ### Release -/
end Go.Proofs.Ytpkfdoefpmgfiaa.Sto
namespace Go.Proofs.Ytpkfdoefpmgfiaa.Sto
open Go Go.RowKit Go.Proofs.Ytpkfdoefpmgfiaa.ML Go.Proofs.Ytpkfdoefpmgfiaa.Mem Go.Proofs.Ytpkfdoefpmgfiaa.Vw Go.Proofs.Ytpkfdoefpmgfiaa.Print Go.Proofs.YtpkfdoefpmgfiaaW.PrintWords Go.Proofs.YtpkfdoefpmgfiaaW.PrintLast Go.Proofs.YtpkfdoefpmgfiaaW.PrintMore
set_option linter.unusedVariables false
set_option linter.unusedSimpArgs false
theorem read_put (V : VS) (S : MS) (i v j : Int) : (V.put i v).read S j = if j = i then v else V.read S j := by
  unfold VS.read VS.put
  simp only [get_put]
  by_cases h : j = i
  · rw [if_pos h, if_pos h]; rfl
  · rw [if_neg h, if_neg h]
theorem read_puts (V : VS) (S : MS) (i : Int) (l : List Int) (j : Int) : (V.puts i l).read S j = if i ≤ j ∧ j < i + l.length then l.getD (j - i).toNat 0 else V.read S j := by
  unfold VS.read VS.puts
  simp only [putsL_get]
  by_cases h : i ≤ j ∧ j < i + l.length
  · rw [if_pos h, if_pos h, List.getD_eq_getElem?_getD, List.getElem?_eq_getElem (by omega)]; rfl
  · rw [if_neg h, if_neg h]
theorem read_set (V : VS) (S : MS) (i : Int) (l : List Int) (hl : l.length = 8) (j : Int) : (V.set i l).read S j = if 8 + 8 * i ≤ j ∧ j < 16 + 8 * i then l.getD (j - (8 + 8 * i)).toNat 0 else V.read S j := by
  unfold VS.set
  rw [read_puts, hl]
  have e : (8 + 8 * i ≤ j ∧ j < 8 + 8 * i + ((8 : Nat) : Int)) ↔ (8 + 8 * i ≤ j ∧ j < 16 + 8 * i) := by omega
  by_cases h : 8 + 8 * i ≤ j ∧ j < 16 + 8 * i
  · rw [if_pos h, if_pos (e.2 h)]
  · rw [if_neg h, if_neg (fun h' => h (e.1 h'))]; rfl
theorem read_take (V : VS) (S : MS) (b n j : Int) (hb : 0 ≤ b ∧ b < 96) (hj : j < 296) : (VS.take V b n).read S j = if j = 200 + b then n + 1 else V.read S j := by
  unfold VS.take
  rw [read_puts, if_neg (by omega), read_put]
theorem set_away (V : VS) (i : Int) (l : List Int) : (V.set i l).away = V.away := rfl
theorem take_away (V : VS) (b n : Int) : (VS.take V b n).away = V.away := by simp only [VS.take, VS.puts, VS.put]
theorem take_awayN (V : VS) (b n : Int) : (VS.take V b n).awayN = V.awayN := by simp only [VS.take, VS.puts, VS.put]
theorem set_awayN (V : VS) (i : Int) (l : List Int) : (V.set i l).awayN = V.awayN := rfl
/-- A block that was taken is free no more; all others stay. -/
theorem fresh_take (V : VS) (S : MS) (b n i : Int) (hb : 0 ≤ b ∧ b < 96) (hn : 0 ≤ n) : (VS.take V b n).fresh S i = (V.fresh S i && !(i == b)) := by
  unfold VS.fresh
  by_cases hi : 0 ≤ i ∧ i < 96
  · rw [read_take V S b n _ hb (by omega)]
    by_cases h : i = b
    · subst h
      rw [if_pos rfl]
      have : (n + 1 == 0) = false := by simp; omega
      simp [this]
    · rw [if_neg (by omega)]
      have : (i == b) = false := by simp [h]
      rw [this, Bool.not_false, Bool.and_true, take_away]
  · rw [decide_eq_false hi]; simp
theorem fresh_set (V : VS) (S : MS) (m : Int) (l : List Int) (i : Int) (hl : l.length = 8) (hm : 0 ≤ m ∧ m < 24) : (V.set m l).fresh S i = V.fresh S i := by
  unfold VS.fresh
  by_cases hi : 0 ≤ i ∧ i < 96
  · rw [read_set V S m l hl, if_neg (by omega), set_away]
  · rw [decide_eq_false hi]; simp
theorem fresh_node (V : VS) (S : MS) (m kd i : Int) (hm : 0 ≤ m ∧ m < 24) : (VS.node V S m kd).fresh S i = V.fresh S i := fresh_set V S m _ i rfl hm
theorem used_take (V : VS) (S : MS) (b n j : Int) (hb : 0 ≤ b ∧ b < 96) (hj : 0 ≤ j ∧ j < 24) : VS.usedN (VS.take V b n) S j = VS.usedN V S j := by
  unfold VS.usedN
  rw [read_take V S b n _ hb (by omega), if_neg (by omega), take_awayN]
theorem used_node (V : VS) (S : MS) (m kd j : Int) (hk : kd = 1 ∨ kd = 2 ∨ kd = 3) : VS.usedN (VS.node V S m kd) S j = (VS.usedN V S j || (j == m)) := by
  unfold VS.usedN VS.node
  rw [read_set _ _ _ _ rfl, set_awayN]
  by_cases h : j = m
  · subst h
    rw [if_pos (by omega)]
    have e : (8 + 8 * j - (8 + 8 * j)).toNat = 0 := by omega
    rw [e]
    have : ((cardW kd 1 ((V.read S (9 + 8 * j) + 1) % 18446744073709551616)).getD 0 0 % 256 != 0) = true := by
      rcases hk with rfl | rfl | rfl <;> rfl
    rw [this]
    simp
  · rw [if_neg (by omega)]
    have : (j == m) = false := by simp [h]
    rw [this, Bool.or_false]
theorem noted_nil (i : Int) : noted [] i = false := rfl
/-! ### a clean memory -/
def Clean (S : MS) : Prop := S.ws.length = 2824 ∧ ∀ i : Int, 8 ≤ i → i < 2824 → S.read i = 0
theorem fresh_new {S : MS} (h : Clean S) (i : Int) : newV.fresh S i = decide (0 ≤ i ∧ i < 96) := by
  unfold VS.fresh
  by_cases hi : 0 ≤ i ∧ i < 96
  · have e : newV.read S (200 + i) = S.read (200 + i) := rfl
    rw [e, h.2 _ (by omega) (by omega), decide_eq_true hi]
    rfl
  · rw [decide_eq_false hi]; simp
theorem used_new {S : MS} (h : Clean S) (j : Int) (hj : 0 ≤ j ∧ j < 24) : VS.usedN newV S j = false := by
  unfold VS.usedN
  have e : newV.read S (8 + 8 * j) = S.read (8 + 8 * j) := rfl
  rw [e, h.2 _ (by omega) (by omega)]
  rfl
theorem free_of (V : VS) (S : MS) (p : Nat → Bool) (n : Nat) (h : ∀ b : Nat, b < n → V.fresh S b = p b) : VS.free V S n = ((List.range n).filter p).length := by
  unfold VS.free
  congr 1
  apply List.filter_congr
  intro b hb
  exact h b (List.mem_range.1 hb)
theorem now_of (S : MS) (i : Int) (h0 : 0 ≤ i) (h1 : i < S.ws.length) : S.read i = (S.at i).now := by
  unfold MS.read MS.has
  rw [decide_eq_true ⟨h0, h1⟩]
  rfl
theorem read_loadS {l : List Int} (hl : l.length ≤ 4096) (i : Int) (h0 : 0 ≤ i) (h1 : i < l.length) : (loadS l).read i = l.getD i.toNat 0 := by
  rw [now_of _ i h0 (by rw [loadS_len]; omega)]
  unfold MS.at loadS
  rw [List.take_of_length_le hl]
  simp only [List.getD_eq_getElem?_getD, List.getElem?_map, List.getElem?_eq_getElem (show i.toNat < l.length by omega), Option.map_some, Option.getD_some]
  rfl
/-- The blocks of a memory and of a view are others. -/
def Sep (f : Fp) (q : Vp) : Prop := ∀ b ∈ f.list, b ≠ q.p ∧ b ≠ q.bo ∧ b ≠ q.bs ∧ b ≠ q.bm
theorem Sep.of {f : Fp} {q : Vp} {n : Nat} (h1 : ∀ b ∈ f.list, b < n) (h2 : ∀ b ∈ q.list, n ≤ b) : Sep f q := by
  intro b hb
  have := h1 b hb
  have a := h2 q.p (by simp [Vp.list])
  have c := h2 q.bo (by simp [Vp.list])
  have d := h2 q.bs (by simp [Vp.list])
  have e := h2 q.bm (by simp [Vp.list])
  omega
theorem Sep.mem3 {w w' : World} {f : Fp} {q : Vp} {S : MS} (h : Sep f q) (hm : IsMem w f S) (t : Turn [q.bo, q.bs, q.bm] w w') : IsMem w' f S :=
  hm.kept t fun b hb => by have := h b hb; simp; omega
theorem Sep.mem1 {w w' : World} {f : Fp} {q : Vp} {S : MS} (h : Sep f q) (hm : IsMem w f S) (t : Turn [q.bo] w w') : IsMem w' f S :=
  hm.kept t fun b hb => by have := h b hb; simp; omega
end Go.Proofs.Ytpkfdoefpmgfiaa.Sto
