/- The statements' helpers: that a memory lives. -/
import Derived.Handy
import Derived.Test.YtifdinoioddnlaaLawA
namespace Go.Proofs.Ytifdinoioddnlaa.Mem
open Go Go.RowKit Go.Proofs.Ytifdinoioddnlaa.ML Go.Proofs.YtifdinoioddnlaaW.PrintWords Go.Proofs.YtifdinoioddnlaaW.PrintLast Go.Proofs.YtifdinoioddnlaaW.PrintMore Go.Proofs.Ytifdinoioddnlaa.Print
set_option linter.unusedVariables false
set_option linter.unusedSimpArgs false
def L0 : MS := newS 20
def L1 : MS := (L0.store 9 7).2
def L2 : MS := (L1.flush 8).2
def L3 : MS := L2.fence.2
def L4 : MS := (L3.store 9 8).2
theorem l1 : (L0.store 9 7).1 = 0 := by kernel_rfl
theorem l2 : (L1.flush 8).1 = 0 := by kernel_rfl
theorem l3 : L2.fence.1 = 0 := by kernel_rfl
theorem l4 : (L3.store 9 8).1 = 0 := by kernel_rfl
theorem l5 : L4.read 9 = 8 := by kernel_rfl
theorem l6 : L4.ws.length = 20 := by kernel_rfl
theorem l7 : L4.calls = 4 := by kernel_rfl
theorem l8 : (L4.at 9).sure = 7 := by kernel_rfl
theorem Crashed.read {S S' : MS} {keep : List Bool} (h : Crashed S keep S') (i : Int) (h0 : 0 ≤ i) (h1 : i < S.ws.length) : S'.read i = (S.at i).sure ∨ S'.read i = (S.at i).now := by
  obtain ⟨x, a, b, _⟩ := h.cell i h0 h1
  have hl := h.len
  have e : S'.read i = x := by
    unfold MS.read
    rw [if_pos ((S'.has_iff i).2 ⟨h0, by omega⟩), a]
    rfl
  rw [e]
  exact b
theorem Crashed.read_none {S S' : MS} (h : Crashed S [] S') (i : Int) (h0 : 0 ≤ i) (h1 : i < S.ws.length) : S'.read i = (S.at i).sure := by
  obtain ⟨x, a, b, c, _⟩ := h.cell i h0 h1
  have hl := h.len
  have e : S'.read i = x := by
    unfold MS.read
    rw [if_pos ((S'.has_iff i).2 ⟨h0, by omega⟩), a]
    rfl
  rw [e]
  exact c rfl
theorem bools_nil (L : List Nat) (w : World) : Bools L w none ([] : List Bool).length [] := ⟨⟨rfl, by decide, fun h => absurd h (by simp)⟩, fun h => absurd h (by simp)⟩
theorem Size_as {w : World} {f : Fp} {S : MS} (h : IsMem w f S) (m : Int) (hm : (S.ws.length : Int) = m) : Calls Try.prog 15 #[ptr f] w fun e w' => e = .returned (.int .i64 m) ∧ w = w' := by
  subst hm
  exact Size_calls h
theorem Read_as {w : World} {f : Fp} {S : MS} (h : IsMem w f S) (i : Int) (hi : oki i) (v : Int) (hv : S.read i = v) : Calls Try.prog 16 #[ptr f, .int .i64 i] w fun e w' => e = .returned (.int .u64 v) ∧ w = w' := by
  subst hv
  exact Read_calls h i hi
theorem Loose_as {w : World} {f : Fp} {S : MS} (h : IsMem w f S) (n : Nat) (hn : S.keys.length = n) : Calls Try.prog 17 #[ptr f] w fun e w' => ∃ (A : Option Addr) (c : Nat), e = .returned (.slice A n c) ∧ Kd.R (Kd.int .i64) 3 w' w.heap.size (fun _ => True) (.slice A n c) S.keys ∧ Below w.heap.size w w' := by
  subst hn
  refine (Loose_calls h).mono fun e w' he => ?_
  obtain ⟨v, rfl, hR, hb⟩ := he
  obtain ⟨A, c, rfl⟩ := Kd.R_slice hR
  exact ⟨A, c, rfl, hR, hb⟩
theorem Image_as {w : World} {f : Fp} {S : MS} (h : IsMem w f S) (l : List Int) (hl : S.image = l) : Calls Try.prog 14 #[ptr f] w fun e w' => ∃ (A : Option Addr) (c : Nat), e = .returned (.slice A l.length c) ∧ Kd.R (Kd.int .u64) 31 w' w.heap.size (fun _ => True) (.slice A l.length c) l ∧ Below w.heap.size w w' := by
  subst hl
  refine (Image_calls h).mono fun e w' he => ?_
  obtain ⟨v, rfl, hR, hb⟩ := he
  obtain ⟨A, c, rfl⟩ := Kd.R_slice hR
  exact ⟨A, c, rfl, hR, hb⟩
set_option maxHeartbeats 2000000 in
theorem lives_calls (w : World) : Calls Try.prog 9 #[] w fun e w' => e = .returned (.bool true) ∧ Below w.heap.size w w' := by
  go_enter Try.func9, Try.ntmps9
  go_wp2_with fail
  refine (New_calls _ 20 (by unfold oki; omega)).mono ?_
  rintro e w0 ⟨f, rfl, h0, hf, hb⟩
  have HF := Aside0.mk hf
  have HB := Aside0.mk hb
  clear hf hb
  go_wp2_with fail
  refine (Store_calls (S := L0) h0 9 7 (by unfold oki; omega) (by unfold okw; omega)).mono ?_
  rintro e w1 ⟨rfl, h1, t1⟩
  rw [l1]
  have T1 := Aside0.mk t1
  clear t1 h0
  go_wp2_with fail
  refine (Flush_calls (S := L1) h1 8 (by unfold oki; omega)).mono ?_
  rintro e w2 ⟨rfl, h2, t2⟩
  rw [l2]
  have T2 := Aside0.mk t2
  clear t2 h1
  go_wp2_with fail
  refine (Fence_calls (S := L2) h2).mono ?_
  rintro e w3 ⟨rfl, h3, t3⟩
  rw [l3]
  have T3 := Aside0.mk t3
  clear t3 h2
  go_wp2_with fail
  refine (Store_calls (S := L3) h3 9 8 (by unfold oki; omega) (by unfold okw; omega)).mono ?_
  rintro e w4 ⟨rfl, h4, t4⟩
  rw [l4]
  have T4 := Aside0.mk t4
  clear t4 h3
  go_wp2_with fail
  refine (Read_calls (S := L4) h4 9 (by unfold oki; omega)).mono ?_
  rintro e w' ⟨rfl, rfl⟩
  rw [l5]
  go_wp2_with fail
  refine (Crash_calls (S := L4) h4 none 0 [] (bools_nil _ _) (by simp)).mono ?_
  rintro e w5 ⟨rfl, ⟨S5, h5, hc⟩, t5⟩
  have hr := hc.read_none 9 (by omega) (by rw [l6]; omega)
  have hlen := hc.len
  have hcalls := hc.calls
  rw [l8] at hr
  rw [l6] at hlen
  rw [l7] at hcalls
  have T5 := Aside0.mk t5
  have HR := Aside0.mk hr
  have HL := Aside0.mk hlen
  have HC := Aside0.mk hcalls
  clear t5 h4 hc hr hlen hcalls
  go_wp2_with fail
  refine (Read_calls h5 9 (by unfold oki; omega)).mono ?_
  rintro e w' ⟨rfl, rfl⟩
  rw [HR.out]
  go_wp2_with fail
  refine (Size_calls h5).mono ?_
  rintro e w' ⟨rfl, rfl⟩
  rw [HL.out]
  go_wp2_with fail
  refine (Calls_calls h5).mono ?_
  rintro e w' ⟨rfl, rfl⟩
  rw [HC.out]
  go_wp2
  go_ret
  exact ⟨rfl, HB.out.trans (((((T1.out.trans T2.out).trans T3.out).trans T4.out).trans T5.out).below HB.out.size HF.out)⟩
end Go.Proofs.Ytifdinoioddnlaa.Mem
