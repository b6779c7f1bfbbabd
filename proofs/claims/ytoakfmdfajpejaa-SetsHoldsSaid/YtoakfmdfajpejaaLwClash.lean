/- Sets of files: SetsClash. -/
import Derived.Test.YtoakfmdfajpejaaLwA
import Derived.Test.YtoakfmdfajpejaaSetF
namespace Go.Proofs.Ytoakfmdfajpejaa.Sets
open Go Go.Maps Go.RowKit Go.Proofs.Ytoakfmdfajpejaa.ML Go.Proofs.Ytoakfmdfajpejaa.Print Go.Proofs.YtoakfmdfajpejaaW.PrintWords Go.Proofs.YtoakfmdfajpejaaW.PrintLast Go.Proofs.YtoakfmdfajpejaaW.PrintMore
set_option linter.unusedVariables false
set_option linter.unusedSimpArgs false
set_option maxHeartbeats 2000000 in
theorem SetsClash_calls (w : World) (A0 : Option Addr) (c0 : Nat) (l0 : List Int) (A1 : Option Addr) (c1 : Nat) (l1 : List Int) (hr0 : Kd.C (Kd.int .i64) w A0 l0.length l0) (hc0 : l0.length ≤ c0) (hr1 : Kd.C (Kd.int .i64) w A1 l1.length l1) (hc1 : l1.length ≤ c1) (hi0 : ∀ k ∈ l0, okn k) (hi1 : ∀ k ∈ l1, okn k) :
    Calls Try.prog 6 #[.slice A0 l0.length c0, .slice A1 l1.length c1] w fun e w' => e = .returned (.bool true) ∧ Below w.heap.size w w' := by
  go_enter Try.func6, Try.ntmps6
  go_wp2_with (first
    | (go_at_call 7; refine (lives_calls _).mono ?_; rintro e w1 ⟨rfl, hb⟩; have B1 := Aside0.mk hb; clear hb))
  go_quiet (fail)
  obtain ⟨w2, hw2⟩ : ∃ w2, w1.drewN nq = w2 := ⟨_, rfl⟩
  have hb2 := pw_below_drewN B1.out nq
  rw [hw2] at hb2
  have hr0 := Kd.C_below (C_cut60 hr0) hb2
  have hr1 := Kd.C_below (C_cut60 hr1) hb2
  have hi0 : ∀ k ∈ l0.take 60, okn k := fun k hk => hi0 k (List.mem_of_mem_take hk)
  have hi1 : ∀ k ∈ l1.take 60, okn k := fun k hk => hi1 k (List.mem_of_mem_take hk)
  have hn0 : (l0.take 60).length ≤ 60 := List.length_take_le ..
  have hn1 : (l1.take 60).length ≤ 60 := List.length_take_le ..
  have hc0 : (l0.take 60).length ≤ c0 := Nat.le_trans (List.length_take_le' ..) hc0
  have hc1 : (l1.take 60).length ≤ c1 := Nat.le_trans (List.length_take_le' ..) hc1
  rw [hw2]
  simp only [cut60]
  generalize (if 60 < (l0.length : Int) then (60 : Int) else (l0.length : Int)) = z0
  generalize (if 60 < (l1.length : Int) then (60 : Int) else (l1.length : Int)) = z1
  generalize l0.take 60 = a at hr0 hi0 hn0 hc0 ⊢
  generalize l1.take 60 = b at hr1 hi1 hn1 hc1 ⊢
  have B2 := Aside0.mk hb2
  have R0 := Aside0.mk hr0
  have R1 := Aside0.mk hr1
  have C0 := Aside0.mk hc0
  have C1 := Aside0.mk hc1
  have I0 := Aside0.mk hi0
  have I1 := Aside0.mk hi1
  have N0 := Aside0.mk hn0
  have N1 := Aside0.mk hn1
  clear hb2 hr0 hr1 hc0 hc1 hi0 hi1 hn0 hn1 hw2 B1
  cases hcl : clashL a b <;> (
    obtain ⟨m1, m2, m3, e1, e2, e3, e4, e5, e6, e7, e8, e9, e10⟩ := clash_pack a b N0.out N1.out hcl
    have HC := Aside0.mk hcl
    have E1 := Aside0.mk e1
    have E2 := Aside0.mk e2
    have E3 := Aside0.mk e3
    have E4 := Aside0.mk e4
    have E5 := Aside0.mk e5
    have E6 := Aside0.mk e6
    have E7 := Aside0.mk e7
    have E8 := Aside0.mk e8
    have E9 := Aside0.mk e9
    have E10 := Aside0.mk e10
    clear hcl e1 e2 e3 e4 e5 e6 e7 e8 e9 e10
    go_wp2_with (first
      | (go_at_call 21; refine (RClash_as R0.out C0.out (by have := N0.out; omega) R1.out C1.out (by have := N1.out; omega) HC.out).mono ?_; rintro e w3 ⟨rfl, hb⟩; have B3 := Aside0.mk (B2.out.trans (hb.mono B2.out.size)); have R03 := Aside0.mk (Kd.C_below R0.out hb); have R13 := Aside0.mk (Kd.C_below R1.out hb); clear hb)
      | (go_at_call 16; have h_ := B4; clear h_; refine (Take_as (Or.inr ⟨_, rfl, M4.out⟩) E3.out R14.out (by have := N1.out; omega) I1.out 2 (okn_iff.2 (by omega)) E4.out E5.out).mono ?_; rintro e w5 ⟨b5, rfl, hb0, hm, hb⟩; have M5 := Aside0.mk hm; have B5 := Aside0.mk (B4.out.trans (hb.mono B4.out.size)); have R05 := Aside0.mk (Kd.C_below R04.out hb); have R15 := Aside0.mk (Kd.C_below R14.out hb); clear hb hm hb0)
      | (go_at_call 16; refine (Take_as (Or.inl ⟨rfl, rfl⟩) (by decide) R03.out (by have := N0.out; omega) I0.out 1 (okn_iff.2 (by omega)) E1.out E2.out).mono ?_; rintro e w4 ⟨b4, rfl, hb0, hm, hb⟩; have M4 := Aside0.mk hm; have B4 := Aside0.mk (B3.out.trans (hb.mono B3.out.size)); have R04 := Aside0.mk (Kd.C_below R03.out hb); have R14 := Aside0.mk (Kd.C_below R13.out hb); clear hb hm hb0)
      | (go_at_call 19; have h_ := B6; clear h_; refine (Drop_as (Or.inr ⟨_, rfl, M6.out⟩) E8.out 1 E9.out).mono ?_; rintro e w7 ⟨b7, rfl, hb0, hm, hb⟩; have M7 := Aside0.mk hm; have B7 := Aside0.mk (B6.out.trans (hb.mono B6.out.size)); have R07 := Aside0.mk (Kd.C_below R06.out hb); have R17 := Aside0.mk (Kd.C_below R16.out hb); clear hb hm hb0)
      | (go_at_call 19; refine (Drop_as (Or.inr ⟨_, rfl, M5.out⟩) E6.out 2 E7.out).mono ?_; rintro e w6 ⟨b6, rfl, hb0, hm, hb⟩; have M6 := Aside0.mk hm; have B6 := Aside0.mk (B5.out.trans (hb.mono B5.out.size)); have R06 := Aside0.mk (Kd.C_below R05.out hb); have R16 := Aside0.mk (Kd.C_below R15.out hb); clear hb hm hb0)
      | (go_at_call 22; have h_ := B8; clear h_; refine (Clash_as R18.out (by have := N1.out; omega) I1.out R08.out (by have := N0.out; omega) E10.out).mono ?_; rintro e w9 ⟨rfl, hb⟩; have B9 := Aside0.mk (B8.out.trans (hb.mono B8.out.size)); have M9 := Aside0.mk (IsMbelow M8.out M8.out.lt hb); clear hb)
      | (go_at_call 22; refine (Clash_as R07.out (by have := N0.out; omega) I0.out R17.out (by have := N1.out; omega) HC.out).mono ?_; rintro e w8 ⟨rfl, hb⟩; have B8 := Aside0.mk (B7.out.trans (hb.mono B7.out.size)); have M8 := Aside0.mk (IsMbelow M7.out M7.out.lt hb); have R08 := Aside0.mk (Kd.C_below R07.out hb); have R18 := Aside0.mk (Kd.C_below R17.out hb); clear hb)
      | ((with_reducible refine gate_dst (N := 63) rfl ?_); refine gate_guard (by rfl) ?_; dsimp only; refine wp_len (x := ekI) mtHolds rfl _ rfl rfl M9.out ?_; rw [List.length_nil]))
    go_ret
    exact ⟨rfl, B9.out⟩)
end Go.Proofs.Ytoakfmdfajpejaa.Sets
