/- The statements' helpers: a new memory, and that a store lives. -/
import Derived.Test.YtpkfdoefpmgfiaaStoX
import Derived.Test.YtpkfdoefpmgfiaaPrint2
namespace Go.Proofs.Ytpkfdoefpmgfiaa.Sto
open Go Go.RowKit Go.Proofs.Ytpkfdoefpmgfiaa.ML Go.Proofs.Ytpkfdoefpmgfiaa.Mem Go.Proofs.Ytpkfdoefpmgfiaa.Vw Go.Proofs.Ytpkfdoefpmgfiaa.Print Go.Proofs.YtpkfdoefpmgfiaaW.PrintWords Go.Proofs.YtpkfdoefpmgfiaaW.PrintLast Go.Proofs.YtpkfdoefpmgfiaaW.PrintMore
set_option linter.unusedVariables false
set_option linter.unusedSimpArgs false
def headL : List Int := [7021221306412823411, 2824, 0, 0, 0, 0, 0, 0]
theorem head_f : plan_Head.f 7 = some headL := by kernel_rfl
def img : List Int := cpy (List.replicate 2824 0) 0 headL
theorem img_eq : img = headL ++ List.replicate 2816 0 := by
  unfold img cpy
  rw [List.take_zero, List.nil_append, List.length_replicate, List.take_of_length_le (by decide), List.drop_replicate]
  rfl
theorem img_len : img.length = 2824 := by rw [img_eq, List.length_append, List.length_replicate]; rfl
theorem img_ok : ∀ v ∈ img, okw v := by
  intro v hv
  rw [img_eq] at hv
  unfold okw
  rcases List.mem_append.1 hv with hv | hv
  · simp [headL] at hv; omega
  · rw [List.eq_of_mem_replicate hv]; omega
theorem image_nil : escritoirelaw09_image.f 7 [] = some img := by
  unfold escritoirelaw09_image.f
  rw [if_pos (by omega), head_f, Option.bind_some]
  simp only [escritoirelaw09_image.l0]
  rw [if_neg (by simp)]
  rfl
theorem clean_img : Clean (loadS img) := by
  refine ⟨by rw [loadS_len, img_len]; omega, fun i h0 h1 => ?_⟩
  rw [read_loadS (by rw [img_len]; omega) i (by omega) (by rw [img_len]; omega), img_eq, List.getD_eq_getElem?_getD, List.getElem?_append_right (by simp [headL]; omega)]
  rw [List.getElem?_replicate]
  split <;> rfl
theorem nilC (w : World) : Kd.C k60 w none 0 [] := ⟨rfl, by decide, fun h => absurd h (by simp)⟩
theorem image_as (w : World) : Calls Try.prog 9 #[.slice none 0 0] w fun e w' => ∃ (A : Option Addr) (cap : Nat), e = .returned (.slice A 2824 cap) ∧ Kd.C (Kd.int .u64) w' A 2824 img ∧ 2824 ≤ cap ∧ Below w.heap.size w w' := by
  refine (escritoirelaw09_image.calls 7 none 0 [] img w (nilC w) (Nat.le_refl _) image_nil).mono ?_
  rintro e w' ⟨v, rfl, hR, hb⟩
  obtain ⟨A, cap, hv⟩ := Kd.R_slice hR
  have h := reads_C (by rw [hv] at hR; exact hR)
  rw [img_len] at hv h
  subst hv
  exact ⟨A, cap, rfl, h.1, h.2, hb⟩
theorem Load_as {w : World} {A : Option Addr} {cap : Nat} {l : List Int} (n : Nat) (hn : l.length = n) (hC : Kd.C (Kd.int .u64) w A n l) (hc : n ≤ cap) (hl : ∀ v ∈ l, okw v) :
    Calls Try.prog 8 #[.slice A n cap] w fun e w' => ∃ f : Fp, e = .returned (ptr f) ∧ IsMem w' f (loadS l) ∧ (∀ b ∈ f.list, w.heap.size ≤ b) ∧ Below w.heap.size w w' := by
  subst hn
  exact Load_calls A cap l hC hc hl
theorem New_as {w : World} {f : Fp} {S : MS} (h : IsMem w f S) (hl : S.ws.length = 2824) : Calls Try.prog 10 #[ptr f] w fun e w' => ∃ q : Vp, e = .returned (vptr q) ∧ IsView w' q f newV ∧ IsMem w' f S ∧ Sep f q ∧ (∀ b ∈ q.list, w.heap.size ≤ b) ∧ Below w.heap.size w w' := by
  refine (New_calls h (by omega)).mono ?_
  rintro e w' ⟨q, rfl, h1, h2, h3⟩
  exact ⟨q, rfl, h1, h.below h3, Sep.of h.lts h2, h2, h3⟩
def S0 : MS := loadS img
theorem S0_len : S0.ws.length = 2824 := clean_img.1
def v1 : VS := VS.take newV 0 3
def v2 : VS := VS.take v1 1 3
def v3 : VS := VS.node v2 S0 2 1
theorem fresh0 (i : Int) : newV.fresh S0 i = decide (0 ≤ i ∧ i < 96) := fresh_new clean_img i
theorem fresh1 (i : Int) : v1.fresh S0 i = (decide (0 ≤ i ∧ i < 96) && !(i == 0)) := by unfold v1; rw [fresh_take _ _ _ _ _ (by omega) (by omega), fresh0]
theorem fresh2 (i : Int) : v2.fresh S0 i = ((decide (0 ≤ i ∧ i < 96) && !(i == 0)) && !(i == 1)) := by unfold v2; rw [fresh_take _ _ _ _ _ (by omega) (by omega), fresh1]
theorem fresh3 (i : Int) : v3.fresh S0 i = ((decide (0 ≤ i ∧ i < 96) && !(i == 0)) && !(i == 1)) := by unfold v3; rw [fresh_node _ _ _ _ _ (by omega), fresh2]
theorem used2 (j : Int) (hj : 0 ≤ j ∧ j < 24) : VS.usedN v2 S0 j = false := by
  unfold v2 v1
  rw [used_take _ _ _ _ _ (by omega) hj, used_take _ _ _ _ _ (by omega) hj]
  exact used_new clean_img j hj
theorem read3 : v3.read S0 (200 + 1) = 4 := by
  unfold v3 VS.node
  rw [read_set _ _ _ _ rfl, if_neg (by omega)]
  unfold v2
  rw [read_take _ _ _ _ _ (by omega) (by omega), if_pos rfl]
  rfl
theorem free3 : VS.free v3 S0 96 = 94 := by
  rw [free_of _ _ (fun b => !(b == 0) && !(b == 1)) 96 (fun b hb => by
    rw [fresh3, decide_eq_true (by omega), Bool.true_and]
    rw [show (((b : Int) == 0)) = (b == 0) from by rw [Bool.eq_iff_iff]; simp, show (((b : Int) == 1)) = (b == 1) from by rw [Bool.eq_iff_iff]; simp; omega])]
  decide
set_option maxHeartbeats 4000000 in
set_option maxRecDepth 100000 in
theorem lives_calls (w : World) : Calls Try.prog 7 #[] w fun e w' => e = .returned (.bool true) ∧ Below w.heap.size w w' := by
  go_enter Try.func7, Try.ntmps7
  go_wp2_with (first
    | (go_at_call 9; refine (image_as _).mono ?_; rintro e w1 ⟨A, cap, rfl, hC, hc, hb⟩; have C1 := Aside0.mk hC; have K1 := Aside0.mk hc; have B1 := Aside0.mk hb; clear hC hc hb)
    | (go_at_call 8; refine (Load_as 2824 img_len C1.out K1.out img_ok).mono ?_; rintro e w2 ⟨f, rfl, f1, f2, f3⟩; have M2 := Aside0.mk (show IsMem w2 f S0 from f1); have B2 := Aside0.mk (B1.out.trans (f3.mono B1.out.size)); clear f1 f2 f3)
    | (go_at_call 10; refine (New_as M2.out S0_len).mono ?_; rintro e w3 ⟨q, rfl, f1, f2, f3, f4, f5⟩; have V3 := Aside0.mk f1; have M3 := Aside0.mk f2; have SP := Aside0.mk f3; have QL := Aside0.mk (fun b hb => Nat.le_trans B2.out.size (f4 b hb)); have B3 := Aside0.mk (B2.out.trans (f5.mono B2.out.size)); clear f1 f2 f3 f4 f5)
    | (go_at_call 13; refine (Take_some V3.out M3.out 3 (by omega) 0 (by omega) (fun j hj => by omega) ((fresh0 _).trans rfl)).mono ?_; rintro e w4 ⟨rfl, r1, r2⟩; have V4 := Aside0.mk (show IsView w4 q f v1 from r1); have M4 := Aside0.mk (SP.out.mem1 M3.out r2); have T4 := Aside0.mk r2; clear r1 r2 V3)
    | (go_at_call 13; refine (Take_some V4.out M4.out 3 (by omega) 1 (by omega) (fun j hj => by have h_ : j = 0 := (by omega); subst h_; exact (fresh1 _).trans rfl) ((fresh1 _).trans rfl)).mono ?_; rintro e w5 ⟨rfl, r1, r2⟩; have V5 := Aside0.mk (show IsView w5 q f v2 from r1); have M5 := Aside0.mk (SP.out.mem1 M4.out r2); have T5 := Aside0.mk (T4.out.trans r2); clear r1 r2)
    | (go_at_call 12; refine (Node_some V5.out M5.out 1 (by omega) 2 (by omega) (fun j h2 hj => by omega) (used2 _ (by omega))).mono ?_; rintro e w6 ⟨rfl, r1, r2⟩; have V6 := Aside0.mk (show IsView w6 q f v3 from r1); have M6 := Aside0.mk (SP.out.mem3 M5.out r2); have T6 := Aside0.mk ((T5.out.mono (L' := [q.bo, q.bs, q.bm]) (fun x hx => .inl (by simp at hx; simp [hx]))).trans r2); clear r1 r2)
    | (go_at_call 17; refine (Owner_ok V6.out M6.out 1 4 (by omega) read3 (by omega)).mono ?_; rintro e w7 ⟨rfl, hb⟩; have V7 := Aside0.mk (V6.out.below hb); have M7 := Aside0.mk (M6.out.below hb); have T7 := Aside0.mk (T6.out.trans (Turn.of_below hb _)); clear hb)
    | (go_at_call 15; refine (Free_calls V7.out M7.out).mono ?_; rintro e w8 ⟨rfl, hb⟩; rw [free3]; have T8 := Aside0.mk (T7.out.trans (Turn.of_below hb _)); clear hb))
  go_ret
  exact ⟨rfl, B3.out.trans (T8.out.below B3.out.size (fun x hx => by
    have a := QL.out q.bo (by simp [Vp.list])
    have b := QL.out q.bs (by simp [Vp.list])
    have c := QL.out q.bm (by simp [Vp.list])
    simp at hx
    omega))⟩
end Go.Proofs.Ytpkfdoefpmgfiaa.Sto
