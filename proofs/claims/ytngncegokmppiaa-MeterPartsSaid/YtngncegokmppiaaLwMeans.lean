/- Means, steps, and what follows slowly, are what the document says. -/
import Derived.Test.YtngncegokmppiaaFloMU
namespace Go.Proofs.Ytngncegokmppiaa.Flo
open Go Go.RowKit Go.Proofs.Ytngncegokmppiaa.Reg Go.Proofs.YtngncegokmppiaaW.PrintWords Go.Proofs.YtngncegokmppiaaW.PrintLast Go.Proofs.YtngncegokmppiaaW.PrintMore
set_option linter.unusedVariables false
set_option linter.unusedSimpArgs false
theorem flo_take {w : World} {A : Option Addr} {n : Nat} {l : List Nat} (h : Kd.C kF w A n l) (m : Nat) (hm : m ≤ n) : Kd.C kF w A m (l.take m) := by
  obtain ⟨h1, h2, h3⟩ := h
  refine ⟨by rw [List.length_take]; omega, by omega, fun h0 => ?_⟩
  obtain ⟨ad, hA, h4⟩ := h3 (by omega)
  refine ⟨ad, hA, fun j p hj => h4 j p ?_⟩
  rw [List.getElem?_take] at hj
  split at hj
  · exact hj
  · cases hj
theorem R_any {w : World} {base : Nat} {ok : Nat → Prop} {v : Value} {l : List Nat} (n : Nat) (h : Kd.R kF 23 w base ok v l) (hn : l.length = n) : ∃ A c, v = .slice A n c ∧ n ≤ c ∧ Kd.C kF w A n l := by
  subst hn
  exact Kd.R_reads h
theorem len_of {rs : List Nat} {cs : List (Option Nat)} {n : Nat} (h : rs.map cv = cs) (hn : cs.length = n) : rs.length = n := by
  rw [← hn, ← h, List.length_map]
theorem SameL_as {w : World} {A B : Option Addr} {c d : Nat} {l k : List Nat} {cs : List (Option Nat)} (n : Nat) (hl : Kd.C kF w A n l) (hk : Kd.C kF w B n k) (h1 : l.map cv = cs) (h2 : k.map cv = cs) : Calls Try.prog 21 #[.slice A n c, .slice B n d] w fun e w' => e = .returned (.bool true) ∧ Below w.heap.size w w' := SameL_calls n hl hk (h1.trans h2.symm)
set_option maxHeartbeats 4000000 in
set_option maxRecDepth 100000 in
theorem MeterMeans_calls (w : World) (A0 : Option Addr) (c0 : Nat) (l : List Nat) (wide : Int) (keep : Nat) (hr : Kd.C kF w A0 l.length l) (hc : l.length ≤ c0) : Calls Try.prog 6 #[.slice A0 l.length c0, .int .i64 wide, .float .f64 keep] w fun e w' => e = .returned (.bool true) ∧ Below w.heap.size w w' := by
  obtain ⟨m, hm⟩ : ∃ m, min l.length 60 = m := ⟨_, rfl⟩
  have hm60 : m ≤ 60 := by omega
  obtain ⟨wd, hwd⟩ : ∃ wd : Nat, min (max wide 1) 1000 = (wd : Int) := ⟨(min (max wide 1) 1000).toNat, by omega⟩
  have HW := Aside0.mk hwd
  have CT := Aside0.mk (flo_take hr m (by omega))
  have TL := Aside0.mk (show (l.take m).length = m by rw [List.length_take]; omega)
  have HC := Aside0.mk hc
  have HM := Aside0.mk hm
  have MC := Aside0.mk (show m ≤ c0 by omega)
  clear hr hc hm hwd
  go_enter Try.func6, Try.ntmps6
  go_wp2_with (first
    | (go_at_call 21; refine (SameL_as m C9A.out CA.out M9.out MA.out).mono ?_; rintro e wB ⟨rfl, hb⟩; have BB := Aside0.mk (BA.out.trans (hb.mono BA.out.size)); clear hb)
    | (go_at_call 21; refine (SameL_as (m - 1) C67.out C7.out M6.out M7.out).mono ?_; rintro e w8 ⟨rfl, hb⟩; have B8 := Aside0.mk (B7.out.trans (hb.mono B7.out.size)); clear hb)
    | (go_at_call 21; refine (SameL_as m C34.out C4.out M3.out M4.out).mono ?_; rintro e w5 ⟨rfl, hb⟩; have B5 := Aside0.mk (B4.out.trans (hb.mono B4.out.size)); clear hb)
    | (go_at_call 8; refine (lives_calls _).mono ?_; rintro e w1 ⟨rfl, hb⟩; have B1 := Aside0.mk hb; clear hb)
    | (go_at_call 9; refine (early_calls _ A0 l.length c0 HC.out m HM.out).mono ?_; rintro e w2 ⟨rfl, hb⟩; have B2 := Aside0.mk (B1.out.trans (hb.mono B1.out.size)); clear hb)
    | (go_at_call 22; refine (Means_as m (Kd.C_below CT.out B2.out) TL.out MC.out (by omega) wide wd HW.out).mono ?_; rintro e w3 ⟨v3, r3, rfl, hR, hmm, hb⟩; have L3 := len_of hmm (meansC_len _ _ _); obtain ⟨A3, c3, ev, _, hC3⟩ := R_any m hR L3; subst ev; have C3 := Aside0.mk hC3; have M3 := Aside0.mk hmm; have B3 := Aside0.mk (B2.out.trans (hb.mono B2.out.size)); clear hR hb hmm hC3 L3)
    | (go_at_call 23; refine (MeansR_as m (Kd.C_below CT.out B3.out) TL.out MC.out (by omega) wide wd HW.out).mono ?_; rintro e w4 ⟨v4, r4, rfl, hR, hmm, hb⟩; have L4 := len_of hmm (meansC_len _ _ _); obtain ⟨A4, c4, ev, _, hC4⟩ := R_any m hR L4; subst ev; have C4 := Aside0.mk hC4; have C34 := Aside0.mk (Kd.C_below C3.out hb); have M4 := Aside0.mk hmm; have B4 := Aside0.mk (B3.out.trans (hb.mono B3.out.size)); clear hR hb hmm hC4 L4)
    | (go_at_call 24; refine (Steps_as m (Kd.C_below CT.out B5.out) TL.out MC.out (by omega)).mono ?_; rintro e w6 ⟨v6, r6, rfl, hR, hmm, hb⟩; have L6 := len_of hmm (stepsC_len _ _); obtain ⟨A6, c6, ev, _, hC6⟩ := R_any (m - 1) hR L6; subst ev; have C6 := Aside0.mk hC6; have M6 := Aside0.mk hmm; have B6 := Aside0.mk (B5.out.trans (hb.mono B5.out.size)); clear hR hb hmm hC6 L6)
    | (go_at_call 25; refine (StepsR_as m (Kd.C_below CT.out B6.out) TL.out MC.out (by omega)).mono ?_; rintro e w7 ⟨v7, r7, rfl, hR, hmm, hb⟩; have L7 := len_of hmm (stepsC_len _ _); obtain ⟨A7, c7, ev, _, hC7⟩ := R_any (m - 1) hR L7; subst ev; have C7 := Aside0.mk hC7; have C67 := Aside0.mk (Kd.C_below C6.out hb); have M7 := Aside0.mk hmm; have B7 := Aside0.mk (B6.out.trans (hb.mono B6.out.size)); clear hR hb hmm hC7 L7)
    | (go_at_call 26; refine (Smooth_as m (Kd.C_below CT.out B8.out) TL.out MC.out (by omega) keep).mono ?_; rintro e w9 ⟨v9, r9, rfl, hR, hmm, hb⟩; have L9 := len_of hmm (smoothC_len _ _ _); obtain ⟨A9, c9, ev, _, hC9⟩ := R_any m hR L9; subst ev; have C9 := Aside0.mk hC9; have M9 := Aside0.mk hmm; have B9 := Aside0.mk (B8.out.trans (hb.mono B8.out.size)); clear hR hb hmm hC9 L9)
    | (go_at_call 27; refine (SmoothR_as m (Kd.C_below CT.out B9.out) TL.out MC.out (by omega) keep).mono ?_; rintro e wA ⟨vA, rA, rfl, hR, hmm, hb⟩; have LA := len_of hmm (smoothC_len _ _ _); obtain ⟨AA, cA, ev, _, hCA⟩ := R_any m hR LA; subst ev; have CA := Aside0.mk hCA; have C9A := Aside0.mk (Kd.C_below C9.out hb); have MA := Aside0.mk hmm; have BA := Aside0.mk (B9.out.trans (hb.mono B9.out.size)); clear hR hb hmm hCA LA))
  go_ret
  exact ⟨rfl, BB.out⟩
end Go.Proofs.Ytngncegokmppiaa.Flo
