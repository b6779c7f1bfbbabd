/- The statements' helpers: a memory with some other words. -/
import Derived.Test.YtpkfdoefpmgfiaaLwA
namespace Go.Proofs.Ytpkfdoefpmgfiaa.Sto
open Go Go.RowKit Go.Proofs.Ytpkfdoefpmgfiaa.ML Go.Proofs.Ytpkfdoefpmgfiaa.Mem Go.Proofs.Ytpkfdoefpmgfiaa.Vw Go.Proofs.Ytpkfdoefpmgfiaa.Print Go.Proofs.YtpkfdoefpmgfiaaW.PrintWords Go.Proofs.YtpkfdoefpmgfiaaW.PrintLast Go.Proofs.YtpkfdoefpmgfiaaW.PrintMore
set_option linter.unusedVariables false
set_option linter.unusedSimpArgs false
theorem idx_ok (n : Int) : 0 ≤ wrap64 (Int.tmod (IntKind.u64.wrap n) 2824) ∧ wrap64 (Int.tmod (IntKind.u64.wrap n) 2824) < 2824 := by
  have h0 : 0 ≤ IntKind.u64.wrap n := by simp [IntKind.wrap, IntKind.signed, IntKind.bits]; omega
  have h1 := Int.tmod_nonneg 2824 h0
  have h2 := Int.tmod_lt_of_pos (IntKind.u64.wrap n) (show (0 : Int) < 2824 by omega)
  generalize Int.tmod (IntKind.u64.wrap n) 2824 = y at *
  unfold wrap64
  omega
theorem u2824 : IntKind.u64.wrap (2824 : Int) = 2824 := by decide
theorem rd_mem (l : List S60) (i : Nat) (h : i < l.length) : rd_T60 l (i : Int) ∈ l := by
  have e : rd_T60 l (i : Int) = l[i] := by
    unfold rd_T60
    simp [h]
  rw [e]
  exact List.getElem_mem h
theorem image_l0 (sp : List S60) (hs : ∀ x ∈ sp, okw x.f1) : ∀ (d i : Nat) (l : List Int), 100 - i = d → l.length = 2824 → (∀ v ∈ l, okw v) → ∃ k r, escritoirelaw09_image.l0 k sp l (i : Int) = some r ∧ r.length = 2824 ∧ ∀ v ∈ r, okw v := by
  intro d
  induction d with
  | zero =>
    intro i l hd hl hw
    refine ⟨1, l, ?_, hl, hw⟩
    simp only [escritoirelaw09_image.l0]
    by_cases h : (i : Int) < (sp.length : Int)
    · rw [if_pos h, if_neg (by omega)]
    · rw [if_neg h]
  | succ d ih =>
    intro i l hd hl hw
    by_cases h : i < sp.length
    · obtain ⟨h1, h2⟩ := idx_ok (rd_T60 sp (i : Int)).f0
      obtain ⟨k, r, hk, hr, ho⟩ := ih (i + 1) (l.set (wrap64 (Int.tmod (IntKind.u64.wrap (rd_T60 sp (i : Int)).f0) 2824)).toNat (rd_T60 sp (i : Int)).f1) (by omega) (by simpa using hl) (fun v hv => by
        rcases List.mem_or_eq_of_mem_set hv with hv | rfl
        · exact hw v hv
        · exact hs _ (rd_mem sp i h))
      refine ⟨k + 1, r, ?_, hr, ho⟩
      simp only [escritoirelaw09_image.l0]
      have e0 : (l.length : Int) = 2824 := by omega
      have e1 : wrap64 ((i : Int) + 1) = ((i + 1 : Nat) : Int) := by unfold wrap64; omega
      rw [e0, u2824, if_pos (by omega), if_pos (by omega), if_pos (by omega), if_neg (by omega), if_pos h1, if_pos h2, e1]
      exact hk
    · refine ⟨1, l, ?_, hl, hw⟩
      simp only [escritoirelaw09_image.l0]
      rw [if_neg (by omega)]
theorem image_any (sp : List S60) (hs : ∀ x ∈ sp, okw x.f1) : ∃ k r, escritoirelaw09_image.f k sp = some r ∧ r.length = 2824 ∧ ∀ v ∈ r, okw v := by
  obtain ⟨k, r, hk, hr, ho⟩ := image_l0 sp hs 100 0 img rfl img_len img_ok
  refine ⟨max 7 k, r, ?_, hr, ho⟩
  unfold escritoirelaw09_image.f
  rw [if_pos (by omega), PlanF.up (f := fun k => plan_Head.f k) (fun k => plan_Head.mono k) (Nat.le_max_left 7 k) head_f, Option.bind_some]
  exact PlanF.up (f := fun k => escritoirelaw09_image.l0 k sp img 0) (fun k => escritoirelaw09_image.mono_l k _ _ _) (Nat.le_max_right 7 k) hk
theorem image_sp (w : World) (A0 : Option Addr) (c0 : Nat) (sp : List S60) (hr : Kd.C k60 w A0 sp.length sp) (hc : sp.length ≤ c0) (hs : ∀ x ∈ sp, okw x.f1) :
    Calls Try.prog 9 #[.slice A0 sp.length c0] w fun e w' => ∃ (A : Option Addr) (cap : Nat) (l : List Int), e = .returned (.slice A 2824 cap) ∧ Kd.C (Kd.int .u64) w' A 2824 l ∧ 2824 ≤ cap ∧ l.length = 2824 ∧ (∀ v ∈ l, okw v) ∧ Below w.heap.size w w' := by
  obtain ⟨k, l, hk, hl, ho⟩ := image_any sp hs
  refine (escritoirelaw09_image.calls k A0 c0 sp l w hr hc hk).mono ?_
  rintro e w' ⟨v, rfl, hR, hb⟩
  obtain ⟨A, cap, hv⟩ := Kd.R_slice hR
  have h := reads_C (by rw [hv] at hR; exact hR)
  rw [hl] at hv h
  subst hv
  exact ⟨A, cap, l, rfl, h.1, h.2, hl, ho, hb⟩
end Go.Proofs.Ytpkfdoefpmgfiaa.Sto
