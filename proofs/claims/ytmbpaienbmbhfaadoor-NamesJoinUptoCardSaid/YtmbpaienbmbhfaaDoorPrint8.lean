-- Made by wip/tools/wprint.py, a program of this workplace, over the translation. Lean checks it.
import Derived.Test.YtmbpaienbmbhfaaDoorPrint0
import Derived.Test.YtmbpaienbmbhfaaDoorPrint4
import Derived.Test.YtmbpaienbmbhfaaDoorPrint5
import Derived.Test.YtmbpaienbmbhfaaDoorHnamesJoin
import Derived.Test.YtmbpaienbmbhfaaDoorHnamesLead
import Derived.Test.YtmbpaienbmbhfaaDoorHnamesSplit
namespace Go.Proofs.YtmbpaienbmbhfaaDoor.Print
open Go.RowKit Go.Proofs.YtmbpaienbmbhfaaDoorW.PrintWords Go.Proofs.YtmbpaienbmbhfaaDoorW.PrintLast Go.Proofs.YtmbpaienbmbhfaaDoorW.PrintMore
attribute [local go_sem] max2_int min2_int max_two min_two max_three min_three max_four min_four   -- for this text's walks alone
set_option linter.unusedVariables false
set_option linter.unusedSimpArgs false

/-! ### escritoirelaw04_NamesJoin: function 7 -/
def escritoirelaw04_NamesJoin.j0 : Nat → List ByteArray → List ByteArray → ByteArray → Int → Bool → Option (Bool)
  | 0, _, _, _, _, _ => none
  | k + 1, x0, x1, x5, x6, x31 => if x31 = true then (some false) else ((names_Split.f k x5).bind fun bt232 => ((names_Lead.f x0 x1).bind fun t236 => (if x6 = 0 then (if bt232.2 = 0 then ((escritoireref04_SameTexts.f k x0 bt232.1).bind fun t239 => (if t239 = true then (if (t236.length : Int) = (wrap64 ((x0.length : Int) + (x1.length : Int))) then (if 0 ≤ (x0.length : Int) then (if (x0.length : Int) ≤ (t236.length : Int) then ((escritoireref04_SameTexts.f k (t236.take ((x0.length : Int) : Int).toNat) x0).bind fun t244 => (if t244 = true then ((escritoireref04_SameTexts.f k (t236.drop ((x0.length : Int) : Int).toNat) x1).bind fun t249 => (some t249)) else (some false))) else (none)) else (none)) else (some false)) else (some false))) else (some false)) else (if (t236.length : Int) = (wrap64 ((x0.length : Int) + (x1.length : Int))) then (if 0 ≤ (x0.length : Int) then (if (x0.length : Int) ≤ (t236.length : Int) then ((escritoireref04_SameTexts.f k (t236.take ((x0.length : Int) : Int).toNat) x0).bind fun t254 => (if t254 = true then ((escritoireref04_SameTexts.f k (t236.drop ((x0.length : Int) : Int).toNat) x1).bind fun t259 => (some t259)) else (some false))) else (none)) else (none)) else (some false)))))
def escritoirelaw04_NamesJoin.f (k : Nat) (l0 : List ByteArray) (l1 : List ByteArray) : Option (Bool) := (escritoirelaw04_lives.f k).bind fun t227 => (if t227 = true then ((names_Join.f k l0).bind fun bt228 => ((escritoireref04_Join.f k l0).bind fun bt230 => (if bt228.1.toList = bt230.1.toList then (escritoirelaw04_NamesJoin.j0 k l0 l1 bt228.1 bt228.2 (bt228.2 != bt230.2)) else (escritoirelaw04_NamesJoin.j0 k l0 l1 bt228.1 bt228.2 true)))) else (some false))
theorem escritoirelaw04_NamesJoin.mono_l : ∀ k, (∀ y0 y1 y2 y3 y4, LeO (escritoirelaw04_NamesJoin.j0 k y0 y1 y2 y3 y4) (escritoirelaw04_NamesJoin.j0 (k + 1) y0 y1 y2 y3 y4))
  | 0 => fun _ _ _ _ _ r h => by simp [escritoirelaw04_NamesJoin.j0] at h
  | k + 1 => by
    have ih0 := escritoirelaw04_NamesJoin.mono_l k
    · intro y0 y1 y2 y3 y4
      unfold escritoirelaw04_NamesJoin.j0
      repeat' first
      | (with_reducible exact ih0 _ _ _ _ _)
      | (with_reducible exact escritoirelaw04_lives.mono _)
      | (with_reducible exact escritoireref04_Join.mono _ _)
      | (with_reducible exact escritoireref04_SameTexts.mono _ _ _)
      | (with_reducible exact names_Join.mono _ _)
      | (with_reducible exact names_Split.mono _ _)
      | (with_reducible exact LeO.refl _)
      | (with_reducible exact LeO.none _)
      | (with_reducible refine LeO.ite ?_ ?_)
      | (with_reducible refine LeO.bind ?_ (fun _ => ?_))
      | exact ih0 _ _ _ _ _
      | exact escritoirelaw04_lives.mono _
      | exact escritoireref04_Join.mono _ _
      | exact escritoireref04_SameTexts.mono _ _ _
      | exact names_Join.mono _ _
      | exact names_Split.mono _ _
      | exact LeO.none _
      | refine LeO.ite ?_ ?_
      | refine LeO.bind ?_ (fun _ => ?_)
theorem escritoirelaw04_NamesJoin.mono : ∀ a0 a1 k, LeO (escritoirelaw04_NamesJoin.f k a0 a1) (escritoirelaw04_NamesJoin.f (k + 1) a0 a1) := by
  intro a0 a1 k
  have ih0 := escritoirelaw04_NamesJoin.mono_l k
  unfold escritoirelaw04_NamesJoin.f
  repeat' first
      | (with_reducible exact ih0 _ _ _ _ _)
      | (with_reducible exact escritoirelaw04_lives.mono _)
      | (with_reducible exact escritoireref04_Join.mono _ _)
      | (with_reducible exact escritoireref04_SameTexts.mono _ _ _)
      | (with_reducible exact names_Join.mono _ _)
      | (with_reducible exact names_Split.mono _ _)
      | (with_reducible exact LeO.refl _)
      | (with_reducible exact LeO.none _)
      | (with_reducible refine LeO.ite ?_ ?_)
      | (with_reducible refine LeO.bind ?_ (fun _ => ?_))
      | exact ih0 _ _ _ _ _
      | exact escritoirelaw04_lives.mono _
      | exact escritoireref04_Join.mono _ _
      | exact escritoireref04_SameTexts.mono _ _ _
      | exact names_Join.mono _ _
      | exact names_Split.mono _ _
      | exact LeO.none _
      | refine LeO.ite ?_ ?_
      | refine LeO.bind ?_ (fun _ => ?_)
set_option maxHeartbeats 8000000 in
set_option maxRecDepth 100000 in
theorem escritoirelaw04_NamesJoin.calls (k : Nat) (A0 : Option Addr) (c0 : Nat) (l0 : List ByteArray) (A1 : Option Addr) (c1 : Nat) (l1 : List ByteArray) (r : Bool) (w : World) (hr0 : Kd.C Kd.string w A0 l0.length l0) (hc0 : l0.length ≤ c0) (hr1 : Kd.C Kd.string w A1 l1.length l1) (hc1 : l1.length ≤ c1) (h : escritoirelaw04_NamesJoin.f k l0 l1 = some r) :
    Calls Tryd.prog 7 #[.slice A0 l0.length c0, .slice A1 l1.length c1] w fun e w' => e = .returned (.bool r) ∧ Below w.heap.size w w' := by
  have HR0 := Aside0.mk hr0
  have HC0 := Aside0.mk hc0
  clear hr0 hc0
  have HR1 := Aside0.mk hr1
  have HC1 := Aside0.mk hc1
  clear hr1 hc1
  have HB := Aside0.mk (Below.refl w.heap.size w)
  have H : ((escritoirelaw04_lives.f k).bind fun t227 => (if t227 = true then ((names_Join.f k l0).bind fun bt228 => ((escritoireref04_Join.f k l0).bind fun bt230 => (if bt228.1.toList = bt230.1.toList then (escritoirelaw04_NamesJoin.j0 k l0 l1 bt228.1 bt228.2 (bt228.2 != bt230.2)) else (escritoirelaw04_NamesJoin.j0 k l0 l1 bt228.1 bt228.2 true)))) else (some false))) = some r := h
  clear h
  replace H := Option.bind_eq_some_iff.mp H
  obtain ⟨t227, A30, H⟩ := H
  replace H : (if t227 = true then ((names_Join.f k l0).bind fun bt228 => ((escritoireref04_Join.f k l0).bind fun bt230 => (if bt228.1.toList = bt230.1.toList then (escritoirelaw04_NamesJoin.j0 k l0 l1 bt228.1 bt228.2 (bt228.2 != bt230.2)) else (escritoirelaw04_NamesJoin.j0 k l0 l1 bt228.1 bt228.2 true)))) else (some false)) = some r := H
  have A3 := Aside0.mk A30
  clear A30
  by_cases c4 : t227 = true
  · subst c4
    have H1 : ((names_Join.f k l0).bind fun bt228 => ((escritoireref04_Join.f k l0).bind fun bt230 => (if bt228.1.toList = bt230.1.toList then (escritoirelaw04_NamesJoin.j0 k l0 l1 bt228.1 bt228.2 (bt228.2 != bt230.2)) else (escritoirelaw04_NamesJoin.j0 k l0 l1 bt228.1 bt228.2 true)))) = some r := by rw [if_pos rfl] at H; exact H
    clear H
    have H := H1
    clear H1
    replace H := Option.bind_eq_some_iff.mp H
    obtain ⟨⟨t228, t229⟩, A50, H⟩ := H
    replace H : ((escritoireref04_Join.f k l0).bind fun bt230 => (if t228.toList = bt230.1.toList then (escritoirelaw04_NamesJoin.j0 k l0 l1 t228 t229 (t229 != bt230.2)) else (escritoirelaw04_NamesJoin.j0 k l0 l1 t228 t229 true))) = some r := H
    have A5 := Aside0.mk A50
    clear A50
    replace H := Option.bind_eq_some_iff.mp H
    obtain ⟨⟨t230, t231⟩, A60, H⟩ := H
    replace H : (if t228.toList = t230.toList then (escritoirelaw04_NamesJoin.j0 k l0 l1 t228 t229 (t229 != t231)) else (escritoirelaw04_NamesJoin.j0 k l0 l1 t228 t229 true)) = some r := H
    have A6 := Aside0.mk A60
    clear A60
    have HC7 := Aside0.mk H
    clear H
    go_enter Tryd.func7, Tryd.ntmps7
    go_upto_region 5 with (first | ((with_reducible refine gate_callee (f := 8) rfl ?_); refine goesL_ (some 12) rfl rfl Tryd.func8 (by kernel_rfl) rfl #[] rfl (by (try simp only [List.map_toArray, List.map_cons, List.map_nil]); first | done | rfl | (simp only [List.length_drop, List.length_take]; rfl)) ?_; (with_reducible refine (escritoirelaw04_lives.calls k  true _ A3.out).mono ?_); rintro e w8 ⟨rfl, hb⟩; refine ⟨_, rfl, ?_⟩; have n0_ := Aside0.mk (below_step (by repeat (first | (with_reducible first | exact HB.out | apply below_alloc | apply pw_below_drewN | apply below_drew1) | exact HB.out)) hb); clear HB; have HB := n0_; clear n0_; (try clear hb); (try clear hb2); (try clear hk); (try clear hi)) | ((with_reducible refine gate_callee (f := 15) rfl ?_); refine goesL_ (some 16) rfl rfl Tryd.func15 (by kernel_rfl) rfl #[.slice A0 l0.length c0] rfl (by (try simp only [List.map_toArray, List.map_cons, List.map_nil]); first | done | rfl | (simp only [List.length_drop, List.length_take]; rfl)) ?_; (with_reducible refine (names_Join.calls k _ _ l0 t228 t229 _ ?side1 ?side2 A5.out).mono ?_); (case side1 => repeat (first | exact (Kd.C_below HR0.out HB.out) | (with_reducible refine Kd.C_alloc ?_ _) | (with_reducible refine Kd.C_drewN ?_ _) | (with_reducible refine Kd.C_drew ?_))); (case side2 => exact HC0.out); rintro e w9 ⟨rfl, hb⟩; refine ⟨_, rfl, ?_⟩; have n0_ := Aside0.mk (below_step (by repeat (first | (with_reducible first | exact HB.out | apply below_alloc | apply pw_below_drewN | apply below_drew1) | exact HB.out)) hb); clear HB; have HB := n0_; clear n0_; (try clear hb); (try clear hb2); (try clear hk); (try clear hi)) | ((with_reducible refine gate_callee (f := 21) rfl ?_); refine goesL_ (some 21) rfl rfl Tryd.func21 (by kernel_rfl) rfl #[.slice A0 l0.length c0] rfl (by (try simp only [List.map_toArray, List.map_cons, List.map_nil]); first | done | rfl | (simp only [List.length_drop, List.length_take]; rfl)) ?_; (with_reducible refine (escritoireref04_Join.calls k _ _ l0 t230 t231 _ ?side1 ?side2 A6.out).mono ?_); (case side1 => repeat (first | exact (Kd.C_below HR0.out HB.out) | (with_reducible refine Kd.C_alloc ?_ _) | (with_reducible refine Kd.C_drewN ?_ _) | (with_reducible refine Kd.C_drew ?_))); (case side2 => exact HC0.out); rintro e w' ⟨rfl, ⟨nd, rfl⟩⟩; refine ⟨_, rfl, ?_⟩))
    (try simp only [Act.put, List.setIfInBounds_toArray, List.set_cons_zero, List.set_cons_succ])
    go_cut [31] (fun v31 wc => ∃ (kq : Nat) (x31_6 : Bool), v31 = .bool x31_6 ∧ Aside0 (escritoirelaw04_NamesJoin.j0 kq l0 l1 t228 t229 x31_6 = some r) ∧ Aside0 (kq ≤ k) ∧ Aside0 (Below w.heap.size w wc))
    case first =>
      have H := HC7.out
      clear HC7
      by_cases c10 : t228.toList = t230.toList
      · rw [if_pos c10] at H
        have c10b0 : (t228.toList == t230.toList) = true := beq_iff_eq.mpr c10
        have c10b1 : (t228.toList != t230.toList) = false := bne_eq_false_iff_eq.mpr c10
        clear c10
        (first | rw [c10b0] | (simp only [i64_w, i32_w]; rw [c10b0]) | skip)
        have H' := Aside0.mk H
        clear H
        go_wp2
        go_meet
        case rel => exact ⟨_, ((t229 != t231)), (by first | rfl | (simp; done) | (simp [*]; done) | kernel_rfl), H', ⟨by first | omega | exact Nat.le_refl _⟩, ⟨by repeat (first | (with_reducible first | exact HB.out | apply below_alloc | apply pw_below_drewN | apply below_drew1) | exact HB.out)⟩⟩
      · rw [if_neg c10] at H
        have c10b0 : (t228.toList == t230.toList) = false := beq_eq_false_iff_ne.mpr c10
        have c10b1 : (t228.toList != t230.toList) = true := bne_iff_ne.mpr c10
        (first | rw [c10b0] | (simp only [i64_w, i32_w]; rw [c10b0]) | skip)
        have H' := Aside0.mk H
        clear H
        go_wp2
        go_meet
        case rel => exact ⟨_, (true), (by first | rfl | (simp; done) | (simp [*]; done) | kernel_rfl), H', ⟨by first | omega | exact Nat.le_refl _⟩, ⟨by repeat (first | (with_reducible first | exact HB.out | apply below_alloc | apply pw_below_drewN | apply below_drew1) | exact HB.out)⟩⟩
    case rest =>
      clear HC7
      try clear c1
      try clear c2
      try clear p2
      try clear c4
      try clear c7
      try clear c8
      try clear c10
      try clear c10b0
      try clear c10b1
      obtain ⟨kq, x31_6, rfl, HA, HJ6, HB⟩ := hcut
      cases kq with
      | zero => exact absurd HA.out (by simp [escritoirelaw04_NamesJoin.j0])
      | succ kj6 =>
        have H := HA.out
        clear HA
        simp only [escritoirelaw04_NamesJoin.j0] at H
        by_cases c11 : x31_6 = true
        · subst c11
          have H1 : (some false) = some r := by rw [if_pos rfl] at H; exact H
          clear H
          have H := H1
          clear H1
          obtain rfl := Option.some.inj H
          go_wp2
          go_ret
          exact ⟨by first | rfl | (simp [errW_none, errW_some] <;> rfl) | (simp [*, errW_none, errW_some] <;> rfl), by repeat (first | (with_reducible first | exact HB.out | apply below_alloc | apply pw_below_drewN | apply below_drew1) | exact HB.out)⟩
        · replace c11 := Bool.eq_false_iff.mpr c11
          subst c11
          have H1 : ((names_Split.f kj6 t228).bind fun bt232 => ((names_Lead.f l0 l1).bind fun t236 => (if t229 = 0 then (if bt232.2 = 0 then ((escritoireref04_SameTexts.f kj6 l0 bt232.1).bind fun t239 => (if t239 = true then (if (t236.length : Int) = (wrap64 ((l0.length : Int) + (l1.length : Int))) then (if 0 ≤ (l0.length : Int) then (if (l0.length : Int) ≤ (t236.length : Int) then ((escritoireref04_SameTexts.f kj6 (t236.take ((l0.length : Int) : Int).toNat) l0).bind fun t244 => (if t244 = true then ((escritoireref04_SameTexts.f kj6 (t236.drop ((l0.length : Int) : Int).toNat) l1).bind fun t249 => (some t249)) else (some false))) else (none)) else (none)) else (some false)) else (some false))) else (some false)) else (if (t236.length : Int) = (wrap64 ((l0.length : Int) + (l1.length : Int))) then (if 0 ≤ (l0.length : Int) then (if (l0.length : Int) ≤ (t236.length : Int) then ((escritoireref04_SameTexts.f kj6 (t236.take ((l0.length : Int) : Int).toNat) l0).bind fun t254 => (if t254 = true then ((escritoireref04_SameTexts.f kj6 (t236.drop ((l0.length : Int) : Int).toNat) l1).bind fun t259 => (some t259)) else (some false))) else (none)) else (none)) else (some false))))) = some r := by rw [if_neg (show ¬ (false = true) by decide)] at H; exact H
          clear H
          have H := H1
          clear H1
          replace H := Option.bind_eq_some_iff.mp H
          obtain ⟨⟨t232, t233⟩, A120, H⟩ := H
          replace H : ((names_Lead.f l0 l1).bind fun t236 => (if t229 = 0 then (if t233 = 0 then ((escritoireref04_SameTexts.f kj6 l0 t232).bind fun t239 => (if t239 = true then (if (t236.length : Int) = (wrap64 ((l0.length : Int) + (l1.length : Int))) then (if 0 ≤ (l0.length : Int) then (if (l0.length : Int) ≤ (t236.length : Int) then ((escritoireref04_SameTexts.f kj6 (t236.take ((l0.length : Int) : Int).toNat) l0).bind fun t244 => (if t244 = true then ((escritoireref04_SameTexts.f kj6 (t236.drop ((l0.length : Int) : Int).toNat) l1).bind fun t249 => (some t249)) else (some false))) else (none)) else (none)) else (some false)) else (some false))) else (some false)) else (if (t236.length : Int) = (wrap64 ((l0.length : Int) + (l1.length : Int))) then (if 0 ≤ (l0.length : Int) then (if (l0.length : Int) ≤ (t236.length : Int) then ((escritoireref04_SameTexts.f kj6 (t236.take ((l0.length : Int) : Int).toNat) l0).bind fun t254 => (if t254 = true then ((escritoireref04_SameTexts.f kj6 (t236.drop ((l0.length : Int) : Int).toNat) l1).bind fun t259 => (some t259)) else (some false))) else (none)) else (none)) else (some false)))) = some r := H
          have A12 := Aside0.mk A120
          clear A120
          replace H := Option.bind_eq_some_iff.mp H
          obtain ⟨t236, A130, H⟩ := H
          replace H : (if t229 = 0 then (if t233 = 0 then ((escritoireref04_SameTexts.f kj6 l0 t232).bind fun t239 => (if t239 = true then (if (t236.length : Int) = (wrap64 ((l0.length : Int) + (l1.length : Int))) then (if 0 ≤ (l0.length : Int) then (if (l0.length : Int) ≤ (t236.length : Int) then ((escritoireref04_SameTexts.f kj6 (t236.take ((l0.length : Int) : Int).toNat) l0).bind fun t244 => (if t244 = true then ((escritoireref04_SameTexts.f kj6 (t236.drop ((l0.length : Int) : Int).toNat) l1).bind fun t249 => (some t249)) else (some false))) else (none)) else (none)) else (some false)) else (some false))) else (some false)) else (if (t236.length : Int) = (wrap64 ((l0.length : Int) + (l1.length : Int))) then (if 0 ≤ (l0.length : Int) then (if (l0.length : Int) ≤ (t236.length : Int) then ((escritoireref04_SameTexts.f kj6 (t236.take ((l0.length : Int) : Int).toNat) l0).bind fun t254 => (if t254 = true then ((escritoireref04_SameTexts.f kj6 (t236.drop ((l0.length : Int) : Int).toNat) l1).bind fun t259 => (some t259)) else (some false))) else (none)) else (none)) else (some false))) = some r := H
          have A13 := Aside0.mk A130
          clear A130
          by_cases c14 : t229 = 0
          · rw [if_pos c14] at H
            have c14b0 : (t229 == 0) = true := beq_iff_eq.mpr c14
            have c14b1 : (t229 != 0) = false := bne_eq_false_iff_eq.mpr c14
            clear c14
            by_cases c15 : t233 = 0
            · rw [if_pos c15] at H
              have c15b0 : (t233 == 0) = true := beq_iff_eq.mpr c15
              have c15b1 : (t233 != 0) = false := bne_eq_false_iff_eq.mpr c15
              clear c15
              replace H := Option.bind_eq_some_iff.mp H
              obtain ⟨t239, A160, H⟩ := H
              replace H : (if t239 = true then (if (t236.length : Int) = (wrap64 ((l0.length : Int) + (l1.length : Int))) then (if 0 ≤ (l0.length : Int) then (if (l0.length : Int) ≤ (t236.length : Int) then ((escritoireref04_SameTexts.f kj6 (t236.take ((l0.length : Int) : Int).toNat) l0).bind fun t244 => (if t244 = true then ((escritoireref04_SameTexts.f kj6 (t236.drop ((l0.length : Int) : Int).toNat) l1).bind fun t249 => (some t249)) else (some false))) else (none)) else (none)) else (some false)) else (some false)) = some r := H
              have A16 := Aside0.mk A160
              clear A160
              by_cases c17 : t239 = true
              · subst c17
                have H1 : (if (t236.length : Int) = (wrap64 ((l0.length : Int) + (l1.length : Int))) then (if 0 ≤ (l0.length : Int) then (if (l0.length : Int) ≤ (t236.length : Int) then ((escritoireref04_SameTexts.f kj6 (t236.take ((l0.length : Int) : Int).toNat) l0).bind fun t244 => (if t244 = true then ((escritoireref04_SameTexts.f kj6 (t236.drop ((l0.length : Int) : Int).toNat) l1).bind fun t249 => (some t249)) else (some false))) else (none)) else (none)) else (some false)) = some r := by rw [if_pos rfl] at H; exact H
                clear H
                have H := H1
                clear H1
                by_cases c18 : (t236.length : Int) = (wrap64 ((l0.length : Int) + (l1.length : Int)))
                · rw [if_pos c18] at H
                  have c18b0 : ((t236.length : Int) == (wrap64 ((l0.length : Int) + (l1.length : Int)))) = true := beq_iff_eq.mpr c18
                  have c18b1 : ((t236.length : Int) != (wrap64 ((l0.length : Int) + (l1.length : Int)))) = false := bne_eq_false_iff_eq.mpr c18
                  clear c18
                  by_cases c19 : 0 ≤ (l0.length : Int)
                  · rw [if_pos c19] at H
                    have c19b0 := eq_true c19
                    have c19b1 : decide (0 ≤ (l0.length : Int)) = true := decide_eq_true c19
                    clear c19
                    by_cases c20 : (l0.length : Int) ≤ (t236.length : Int)
                    · rw [if_pos c20] at H
                      have c20b0 := eq_true c20
                      have c20b1 : decide ((l0.length : Int) ≤ (t236.length : Int)) = true := decide_eq_true c20
                      clear c20
                      obtain ⟨y240, hy240⟩ : ∃ y_ : List ByteArray, y_ = (t236.take ((l0.length : Int) : Int).toNat) := ⟨_, rfl⟩
                      replace H : ((escritoireref04_SameTexts.f kj6 y240 l0).bind fun t244 => (if t244 = true then ((escritoireref04_SameTexts.f kj6 (t236.drop ((l0.length : Int) : Int).toNat) l1).bind fun t249 => (some t249)) else (some false))) = some r := by first | (rw [hy240]; with_reducible exact H) | (have H2_ := (Option.bind_some _ _).symm.trans H; rw [hy240]; with_reducible exact H2_) | (have H2_ := (Option.bind_some _ _).symm.trans H; with_reducible exact H2_) | with_reducible exact H | (rw [hy240]; exact H) | exact H
                      have Ny240 := Aside0.mk hy240
                      clear hy240
                      replace H := Option.bind_eq_some_iff.mp H
                      obtain ⟨t244, A210, H⟩ := H
                      replace H : (if t244 = true then ((escritoireref04_SameTexts.f kj6 (t236.drop ((l0.length : Int) : Int).toNat) l1).bind fun t249 => (some t249)) else (some false)) = some r := H
                      have A21 := Aside0.mk A210
                      clear A210
                      by_cases c22 : t244 = true
                      · subst c22
                        have H1 : ((escritoireref04_SameTexts.f kj6 (t236.drop ((l0.length : Int) : Int).toNat) l1).bind fun t249 => (some t249)) = some r := by rw [if_pos rfl] at H; exact H
                        clear H
                        have H := H1
                        clear H1
                        have c23b0 := eq_true (of_decide_eq_true (by first | (with_reducible assumption) | assumption) : 0 ≤ (l0.length : Int))
                        have c24b0 := eq_true (of_decide_eq_true (by first | (with_reducible assumption) | assumption) : (l0.length : Int) ≤ (t236.length : Int))
                        obtain ⟨y245, hy245⟩ : ∃ y_ : List ByteArray, y_ = (t236.drop ((l0.length : Int) : Int).toNat) := ⟨_, rfl⟩
                        replace H : ((escritoireref04_SameTexts.f kj6 y245 l1).bind fun t249 => (some t249)) = some r := by first | (rw [hy245]; with_reducible exact H) | (have H2_ := (Option.bind_some _ _).symm.trans H; rw [hy245]; with_reducible exact H2_) | (have H2_ := (Option.bind_some _ _).symm.trans H; with_reducible exact H2_) | with_reducible exact H | (rw [hy245]; exact H) | exact H
                        have Ny245 := Aside0.mk hy245
                        clear hy245
                        replace H := Option.bind_eq_some_iff.mp H
                        obtain ⟨t249, A250, H⟩ := H
                        replace H : (some t249) = some r := H
                        have A25 := Aside0.mk A250
                        clear A250
                        obtain rfl := Option.some.inj H
                        go_wp2_with (first | ((with_reducible refine gate_callee (f := 9) rfl ?_); refine goesL_ (some 34) rfl rfl Tryd.func9 (by kernel_rfl) rfl #[.string t228] rfl (by (try simp only [List.map_toArray, List.map_cons, List.map_nil]); first | done | rfl | (simp only [List.length_drop, List.length_take]; rfl)) ?_; (with_reducible refine (names_Split.calls kj6 t228 t232 t233 _ A12.out).mono ?_); rintro e w26 ⟨v234, rfl, ho0, hb⟩; refine ⟨_, rfl, ?_⟩; have n0_ := Aside0.mk (Kd.R_lower ho0 (below_size (by repeat (first | (with_reducible first | exact HB.out | apply below_alloc | apply pw_below_drewN | apply below_drew1) | exact HB.out)))); have n1_ := Aside0.mk (below_step (by repeat (first | (with_reducible first | exact HB.out | apply below_alloc | apply pw_below_drewN | apply below_drew1) | exact HB.out)) hb); clear HB; have HO235 := n0_; have HB := n1_; clear n0_ n1_; (try clear hb); (try clear hb2); (try clear hk); (try clear hi); (try clear ho0)) | ((with_reducible refine gate_callee (f := 22) rfl ?_); refine goesL_ (some 39) rfl rfl Tryd.func22 (by kernel_rfl) rfl #[.slice A0 l0.length c0, .slice A1 l1.length c1] rfl (by (try simp only [List.map_toArray, List.map_cons, List.map_nil]); first | done | rfl | (simp only [List.length_drop, List.length_take]; rfl)) ?_; (with_reducible refine (names_Lead.calls _ _ l0 _ _ l1 t236 _ ?side1 ?side2 ?side3 ?side4 A13.out).mono ?_); (case side1 => repeat (first | exact (Kd.C_below HR0.out HB.out) | (with_reducible refine Kd.C_alloc ?_ _) | (with_reducible refine Kd.C_drewN ?_ _) | (with_reducible refine Kd.C_drew ?_))); (case side2 => exact HC0.out); (case side3 => repeat (first | exact (Kd.C_below HR1.out HB.out) | (with_reducible refine Kd.C_alloc ?_ _) | (with_reducible refine Kd.C_drewN ?_ _) | (with_reducible refine Kd.C_drew ?_))); (case side4 => exact HC1.out); rintro e w27 ⟨v237, rfl, ho0, hb⟩; refine ⟨_, rfl, ?_⟩; have n0_ := Aside0.mk (Kd.R_elder' (by (with_reducible repeat (first | apply Kd.R_alloc | apply Kd.R_drewN | apply Kd.R_drew)); exact HO235.out) (Kd.R_base ho0) hb); have n1_ := Aside0.mk (Kd.R_lower (Kd.R_new' ho0 (Kd.R_lt (by (with_reducible repeat (first | apply Kd.R_alloc | apply Kd.R_drewN | apply Kd.R_drew)); exact HO235.out))) (below_size (by repeat (first | (with_reducible first | exact HB.out | apply below_alloc | apply pw_below_drewN | apply below_drew1) | exact HB.out)))); have n2_ := Aside0.mk (below_step (by repeat (first | (with_reducible first | exact HB.out | apply below_alloc | apply pw_below_drewN | apply below_drew1) | exact HB.out)) hb); clear HO235; clear HB; have HO235 := n0_; have HO238 := n1_; have HB := n2_; clear n0_ n1_ n2_; (try clear hb); (try clear hb2); (try clear hk); (try clear hi); (try clear ho0); obtain ⟨Ao28, co28, eo28⟩ := Kd.R_slice HO235.out; subst eo28) | (go_at_call 13; (with_reducible refine (escritoireref04_SameTexts.calls kj6 _ _ l0 _ _ t232 true _ ?side1 ?side2 ?side3 ?side4 A16.out).mono ?_); (case side1 => repeat (first | exact (Kd.C_below HR0.out HB.out) | (with_reducible refine Kd.C_alloc ?_ _) | (with_reducible refine Kd.C_drewN ?_ _) | (with_reducible refine Kd.C_drew ?_))); (case side2 => exact HC0.out); (case side3 => repeat (first | exact (Kd.R_reads' HO235.out).2.2 | (with_reducible refine Kd.C_alloc ?_ _) | (with_reducible refine Kd.C_drewN ?_ _) | (with_reducible refine Kd.C_drew ?_))); (case side4 => exact (Kd.R_reads' HO235.out).2.1); rintro e w' ⟨rfl, ⟨nd, rfl⟩⟩; obtain ⟨Ao29, co29, eo29⟩ := Kd.R_slice HO238.out; subst eo29; have q30 : ((l0.length : Int) : Int) ≤ ((t236.length : Int) : Int) := of_decide_eq_true (by first | (with_reducible assumption) | assumption); obtain ⟨i030, hi030, _, hsz30, _⟩ := info_parts info9; have hroom30 : t236.length ≤ co29 := (Kd.R_reads' HO238.out).2.1; have hC30 : Kd.C Kd.string _ Ao29 t236.length t236 := (Kd.R_reads' HO238.out).2.2; have hcut30 := cut_to (P := Tryd.prog) 23 9 .i64 Tryd.underlying23 hi030 Ao29 t236.length co29 (l0.length : Int) (of_decide_eq_true (by first | (with_reducible assumption) | assumption)) q30 hroom30; have hr30 := Kd.C_take (m := ((l0.length : Int) : Int).toNat) hC30 (by omega); have hy30 : y240.length = ((l0.length : Int) : Int).toNat := (by rw [Ny240.out, List.length_take]; omega); rw [← Ny240.out] at hr30; rw [← hy30] at hcut30; have HR243 := Aside0.mk hr30; have HC243 := Aside0.mk (show y240.length ≤ co29 from by omega); clear hr30 hC30 hroom30 hi030 hsz30; have KY30 := Aside0.mk hy30; clear hy30; have KL30 := Aside0.mk (show ((l0.length : Int) : Int).toNat ≤ t236.length from by omega); replace q30 := eq_true q30) | (go_at_call 13; (with_reducible refine (escritoireref04_SameTexts.calls kj6 _ _ y240 _ _ l0 true _ ?side1 ?side2 ?side3 ?side4 A21.out).mono ?_); (case side1 => repeat (first | exact (by repeat (first | (with_reducible exact HR243.out) | (with_reducible refine Kd.C_alloc ?_ _) | (with_reducible refine Kd.C_drewN ?_ _) | (with_reducible refine Kd.C_drew ?_) | exact HR243.out)) | (with_reducible refine Kd.C_alloc ?_ _) | (with_reducible refine Kd.C_drewN ?_ _) | (with_reducible refine Kd.C_drew ?_))); (case side2 => exact HC243.out); (case side3 => repeat (first | exact (Kd.C_below HR0.out (by repeat (first | (with_reducible first | exact HB.out | apply below_alloc | apply pw_below_drewN | apply below_drew1) | exact HB.out))) | (with_reducible refine Kd.C_alloc ?_ _) | (with_reducible refine Kd.C_drewN ?_ _) | (with_reducible refine Kd.C_drew ?_))); (case side4 => exact HC0.out); rintro e w' ⟨rfl, ⟨nd, rfl⟩⟩; have q31 : ((l0.length : Int) : Int) ≤ ((t236.length : Int) : Int) := of_decide_eq_true (by first | (with_reducible assumption) | assumption); obtain ⟨i031, hi031, _, hsz31, _⟩ := info_parts info9; have hroom31 : t236.length ≤ co29 := (Kd.R_reads' HO238.out).2.1; have hC31 : Kd.C Kd.string _ Ao29 t236.length t236 := (Kd.R_reads' HO238.out).2.2; have q031 : (0 : Int) ≤ ((l0.length : Int) : Int) := of_decide_eq_true (by first | (with_reducible assumption) | assumption); have hcut31 := cut_from (P := Tryd.prog) 23 9 .i64 Tryd.underlying23 hi031 1 hsz31 Ao29 t236.length co29 (l0.length : Int) q031 q31; have hr31 := Kd.C_drop (m := ((l0.length : Int) : Int).toNat) (c := co29) hC31 (by omega) hroom31; obtain ⟨A31, hA31⟩ : ∃ A1, A1 = (if co29 = ((l0.length : Int) : Int).toNat then Ao29 else (Ao29 : Option Addr).map (·.add (((l0.length : Int) : Int).toNat * 1))) := ⟨_, rfl⟩; obtain ⟨c31, hc31⟩ : ∃ c1, c1 = co29 - ((l0.length : Int) : Int).toNat := ⟨_, rfl⟩; have hy31 : y245.length = t236.length - ((l0.length : Int) : Int).toNat := (by rw [Ny245.out, List.length_drop] <;> omega); rw [show (t236).drop ((l0.length : Int) : Int).toNat = y245 from Ny245.out.symm] at hr31; replace hr31 : Kd.C Kd.string _ A31 y245.length y245 := (by rw [hA31]; exact hr31); rw [← hy31, ← hA31, ← hc31] at hcut31; have HR248 := Aside0.mk hr31; have HC248 := Aside0.mk (show y245.length ≤ c31 from by rw [hy31, hc31]; exact Nat.sub_le_sub_right hroom31 _); clear hr31 hC31 hroom31 hi031 hsz31 hc31; have KY31 := Aside0.mk hy31; have KA31 := Aside0.mk hA31; clear hy31 hA31; have KL31 := Aside0.mk (show ((l0.length : Int) : Int).toNat ≤ t236.length from by omega); replace q31 := eq_true q31) | (go_at_call 13; (with_reducible refine (escritoireref04_SameTexts.calls kj6 _ _ y245 _ _ l1 t249 _ ?side1 ?side2 ?side3 ?side4 A25.out).mono ?_); (case side1 => repeat (first | exact (by repeat (first | (with_reducible exact HR248.out) | (with_reducible refine Kd.C_alloc ?_ _) | (with_reducible refine Kd.C_drewN ?_ _) | (with_reducible refine Kd.C_drew ?_) | exact HR248.out)) | (with_reducible refine Kd.C_alloc ?_ _) | (with_reducible refine Kd.C_drewN ?_ _) | (with_reducible refine Kd.C_drew ?_))); (case side2 => exact HC248.out); (case side3 => repeat (first | exact (Kd.C_below HR1.out (by repeat (first | (with_reducible first | exact HB.out | apply below_alloc | apply pw_below_drewN | apply below_drew1) | exact HB.out))) | (with_reducible refine Kd.C_alloc ?_ _) | (with_reducible refine Kd.C_drewN ?_ _) | (with_reducible refine Kd.C_drew ?_))); (case side4 => exact HC1.out); rintro e w' ⟨rfl, ⟨nd, rfl⟩⟩))
                        go_ret
                        exact ⟨by first | rfl | (simp [errW_none, errW_some] <;> rfl) | (simp [*, errW_none, errW_some] <;> rfl), by repeat (first | (with_reducible first | exact HB.out | apply below_alloc | apply pw_below_drewN | apply below_drew1) | exact HB.out)⟩
                      · replace c22 := Bool.eq_false_iff.mpr c22
                        subst c22
                        have H1 : (some false) = some r := by rw [if_neg (show ¬ (false = true) by decide)] at H; exact H
                        clear H
                        have H := H1
                        clear H1
                        obtain rfl := Option.some.inj H
                        go_wp2_with (first | ((with_reducible refine gate_callee (f := 9) rfl ?_); refine goesL_ (some 34) rfl rfl Tryd.func9 (by kernel_rfl) rfl #[.string t228] rfl (by (try simp only [List.map_toArray, List.map_cons, List.map_nil]); first | done | rfl | (simp only [List.length_drop, List.length_take]; rfl)) ?_; (with_reducible refine (names_Split.calls kj6 t228 t232 t233 _ A12.out).mono ?_); rintro e w32 ⟨v234, rfl, ho0, hb⟩; refine ⟨_, rfl, ?_⟩; have n0_ := Aside0.mk (Kd.R_lower ho0 (below_size (by repeat (first | (with_reducible first | exact HB.out | apply below_alloc | apply pw_below_drewN | apply below_drew1) | exact HB.out)))); have n1_ := Aside0.mk (below_step (by repeat (first | (with_reducible first | exact HB.out | apply below_alloc | apply pw_below_drewN | apply below_drew1) | exact HB.out)) hb); clear HB; have HO235 := n0_; have HB := n1_; clear n0_ n1_; (try clear hb); (try clear hb2); (try clear hk); (try clear hi); (try clear ho0)) | ((with_reducible refine gate_callee (f := 22) rfl ?_); refine goesL_ (some 39) rfl rfl Tryd.func22 (by kernel_rfl) rfl #[.slice A0 l0.length c0, .slice A1 l1.length c1] rfl (by (try simp only [List.map_toArray, List.map_cons, List.map_nil]); first | done | rfl | (simp only [List.length_drop, List.length_take]; rfl)) ?_; (with_reducible refine (names_Lead.calls _ _ l0 _ _ l1 t236 _ ?side1 ?side2 ?side3 ?side4 A13.out).mono ?_); (case side1 => repeat (first | exact (Kd.C_below HR0.out HB.out) | (with_reducible refine Kd.C_alloc ?_ _) | (with_reducible refine Kd.C_drewN ?_ _) | (with_reducible refine Kd.C_drew ?_))); (case side2 => exact HC0.out); (case side3 => repeat (first | exact (Kd.C_below HR1.out HB.out) | (with_reducible refine Kd.C_alloc ?_ _) | (with_reducible refine Kd.C_drewN ?_ _) | (with_reducible refine Kd.C_drew ?_))); (case side4 => exact HC1.out); rintro e w33 ⟨v237, rfl, ho0, hb⟩; refine ⟨_, rfl, ?_⟩; have n0_ := Aside0.mk (Kd.R_elder' (by (with_reducible repeat (first | apply Kd.R_alloc | apply Kd.R_drewN | apply Kd.R_drew)); exact HO235.out) (Kd.R_base ho0) hb); have n1_ := Aside0.mk (Kd.R_lower (Kd.R_new' ho0 (Kd.R_lt (by (with_reducible repeat (first | apply Kd.R_alloc | apply Kd.R_drewN | apply Kd.R_drew)); exact HO235.out))) (below_size (by repeat (first | (with_reducible first | exact HB.out | apply below_alloc | apply pw_below_drewN | apply below_drew1) | exact HB.out)))); have n2_ := Aside0.mk (below_step (by repeat (first | (with_reducible first | exact HB.out | apply below_alloc | apply pw_below_drewN | apply below_drew1) | exact HB.out)) hb); clear HO235; clear HB; have HO235 := n0_; have HO238 := n1_; have HB := n2_; clear n0_ n1_ n2_; (try clear hb); (try clear hb2); (try clear hk); (try clear hi); (try clear ho0); obtain ⟨Ao34, co34, eo34⟩ := Kd.R_slice HO235.out; subst eo34) | (go_at_call 13; (with_reducible refine (escritoireref04_SameTexts.calls kj6 _ _ l0 _ _ t232 true _ ?side1 ?side2 ?side3 ?side4 A16.out).mono ?_); (case side1 => repeat (first | exact (Kd.C_below HR0.out HB.out) | (with_reducible refine Kd.C_alloc ?_ _) | (with_reducible refine Kd.C_drewN ?_ _) | (with_reducible refine Kd.C_drew ?_))); (case side2 => exact HC0.out); (case side3 => repeat (first | exact (Kd.R_reads' HO235.out).2.2 | (with_reducible refine Kd.C_alloc ?_ _) | (with_reducible refine Kd.C_drewN ?_ _) | (with_reducible refine Kd.C_drew ?_))); (case side4 => exact (Kd.R_reads' HO235.out).2.1); rintro e w' ⟨rfl, ⟨nd, rfl⟩⟩; obtain ⟨Ao35, co35, eo35⟩ := Kd.R_slice HO238.out; subst eo35; have q36 : ((l0.length : Int) : Int) ≤ ((t236.length : Int) : Int) := of_decide_eq_true (by first | (with_reducible assumption) | assumption); obtain ⟨i036, hi036, _, hsz36, _⟩ := info_parts info9; have hroom36 : t236.length ≤ co35 := (Kd.R_reads' HO238.out).2.1; have hC36 : Kd.C Kd.string _ Ao35 t236.length t236 := (Kd.R_reads' HO238.out).2.2; have hcut36 := cut_to (P := Tryd.prog) 23 9 .i64 Tryd.underlying23 hi036 Ao35 t236.length co35 (l0.length : Int) (of_decide_eq_true (by first | (with_reducible assumption) | assumption)) q36 hroom36; have hr36 := Kd.C_take (m := ((l0.length : Int) : Int).toNat) hC36 (by omega); have hy36 : y240.length = ((l0.length : Int) : Int).toNat := (by rw [Ny240.out, List.length_take]; omega); rw [← Ny240.out] at hr36; rw [← hy36] at hcut36; have HR243 := Aside0.mk hr36; have HC243 := Aside0.mk (show y240.length ≤ co35 from by omega); clear hr36 hC36 hroom36 hi036 hsz36; have KY36 := Aside0.mk hy36; clear hy36; have KL36 := Aside0.mk (show ((l0.length : Int) : Int).toNat ≤ t236.length from by omega); replace q36 := eq_true q36) | (go_at_call 13; (with_reducible refine (escritoireref04_SameTexts.calls kj6 _ _ y240 _ _ l0 false _ ?side1 ?side2 ?side3 ?side4 A21.out).mono ?_); (case side1 => repeat (first | exact (by repeat (first | (with_reducible exact HR243.out) | (with_reducible refine Kd.C_alloc ?_ _) | (with_reducible refine Kd.C_drewN ?_ _) | (with_reducible refine Kd.C_drew ?_) | exact HR243.out)) | (with_reducible refine Kd.C_alloc ?_ _) | (with_reducible refine Kd.C_drewN ?_ _) | (with_reducible refine Kd.C_drew ?_))); (case side2 => exact HC243.out); (case side3 => repeat (first | exact (Kd.C_below HR0.out (by repeat (first | (with_reducible first | exact HB.out | apply below_alloc | apply pw_below_drewN | apply below_drew1) | exact HB.out))) | (with_reducible refine Kd.C_alloc ?_ _) | (with_reducible refine Kd.C_drewN ?_ _) | (with_reducible refine Kd.C_drew ?_))); (case side4 => exact HC0.out); rintro e w' ⟨rfl, ⟨nd, rfl⟩⟩))
                        go_ret
                        exact ⟨by first | rfl | (simp [errW_none, errW_some] <;> rfl) | (simp [*, errW_none, errW_some] <;> rfl), by repeat (first | (with_reducible first | exact HB.out | apply below_alloc | apply pw_below_drewN | apply below_drew1) | exact HB.out)⟩
                    · rw [if_neg c20] at H
                      exact absurd H (by simp)
                  · rw [if_neg c19] at H
                    exact absurd H (by simp)
                · rw [if_neg c18] at H
                  have c18b0 : ((t236.length : Int) == (wrap64 ((l0.length : Int) + (l1.length : Int)))) = false := beq_eq_false_iff_ne.mpr c18
                  have c18b1 : ((t236.length : Int) != (wrap64 ((l0.length : Int) + (l1.length : Int)))) = true := bne_iff_ne.mpr c18
                  obtain rfl := Option.some.inj H
                  go_wp2_with (first | ((with_reducible refine gate_callee (f := 9) rfl ?_); refine goesL_ (some 34) rfl rfl Tryd.func9 (by kernel_rfl) rfl #[.string t228] rfl (by (try simp only [List.map_toArray, List.map_cons, List.map_nil]); first | done | rfl | (simp only [List.length_drop, List.length_take]; rfl)) ?_; (with_reducible refine (names_Split.calls kj6 t228 t232 t233 _ A12.out).mono ?_); rintro e w37 ⟨v234, rfl, ho0, hb⟩; refine ⟨_, rfl, ?_⟩; have n0_ := Aside0.mk (Kd.R_lower ho0 (below_size (by repeat (first | (with_reducible first | exact HB.out | apply below_alloc | apply pw_below_drewN | apply below_drew1) | exact HB.out)))); have n1_ := Aside0.mk (below_step (by repeat (first | (with_reducible first | exact HB.out | apply below_alloc | apply pw_below_drewN | apply below_drew1) | exact HB.out)) hb); clear HB; have HO235 := n0_; have HB := n1_; clear n0_ n1_; (try clear hb); (try clear hb2); (try clear hk); (try clear hi); (try clear ho0)) | ((with_reducible refine gate_callee (f := 22) rfl ?_); refine goesL_ (some 39) rfl rfl Tryd.func22 (by kernel_rfl) rfl #[.slice A0 l0.length c0, .slice A1 l1.length c1] rfl (by (try simp only [List.map_toArray, List.map_cons, List.map_nil]); first | done | rfl | (simp only [List.length_drop, List.length_take]; rfl)) ?_; (with_reducible refine (names_Lead.calls _ _ l0 _ _ l1 t236 _ ?side1 ?side2 ?side3 ?side4 A13.out).mono ?_); (case side1 => repeat (first | exact (Kd.C_below HR0.out HB.out) | (with_reducible refine Kd.C_alloc ?_ _) | (with_reducible refine Kd.C_drewN ?_ _) | (with_reducible refine Kd.C_drew ?_))); (case side2 => exact HC0.out); (case side3 => repeat (first | exact (Kd.C_below HR1.out HB.out) | (with_reducible refine Kd.C_alloc ?_ _) | (with_reducible refine Kd.C_drewN ?_ _) | (with_reducible refine Kd.C_drew ?_))); (case side4 => exact HC1.out); rintro e w38 ⟨v237, rfl, ho0, hb⟩; refine ⟨_, rfl, ?_⟩; have n0_ := Aside0.mk (Kd.R_elder' (by (with_reducible repeat (first | apply Kd.R_alloc | apply Kd.R_drewN | apply Kd.R_drew)); exact HO235.out) (Kd.R_base ho0) hb); have n1_ := Aside0.mk (Kd.R_lower (Kd.R_new' ho0 (Kd.R_lt (by (with_reducible repeat (first | apply Kd.R_alloc | apply Kd.R_drewN | apply Kd.R_drew)); exact HO235.out))) (below_size (by repeat (first | (with_reducible first | exact HB.out | apply below_alloc | apply pw_below_drewN | apply below_drew1) | exact HB.out)))); have n2_ := Aside0.mk (below_step (by repeat (first | (with_reducible first | exact HB.out | apply below_alloc | apply pw_below_drewN | apply below_drew1) | exact HB.out)) hb); clear HO235; clear HB; have HO235 := n0_; have HO238 := n1_; have HB := n2_; clear n0_ n1_ n2_; (try clear hb); (try clear hb2); (try clear hk); (try clear hi); (try clear ho0); obtain ⟨Ao39, co39, eo39⟩ := Kd.R_slice HO235.out; subst eo39) | (go_at_call 13; (with_reducible refine (escritoireref04_SameTexts.calls kj6 _ _ l0 _ _ t232 true _ ?side1 ?side2 ?side3 ?side4 A16.out).mono ?_); (case side1 => repeat (first | exact (Kd.C_below HR0.out HB.out) | (with_reducible refine Kd.C_alloc ?_ _) | (with_reducible refine Kd.C_drewN ?_ _) | (with_reducible refine Kd.C_drew ?_))); (case side2 => exact HC0.out); (case side3 => repeat (first | exact (Kd.R_reads' HO235.out).2.2 | (with_reducible refine Kd.C_alloc ?_ _) | (with_reducible refine Kd.C_drewN ?_ _) | (with_reducible refine Kd.C_drew ?_))); (case side4 => exact (Kd.R_reads' HO235.out).2.1); rintro e w' ⟨rfl, ⟨nd, rfl⟩⟩; obtain ⟨Ao40, co40, eo40⟩ := Kd.R_slice HO238.out; subst eo40))
                  go_ret
                  exact ⟨by first | rfl | (simp [errW_none, errW_some] <;> rfl) | (simp [*, errW_none, errW_some] <;> rfl), by repeat (first | (with_reducible first | exact HB.out | apply below_alloc | apply pw_below_drewN | apply below_drew1) | exact HB.out)⟩
              · replace c17 := Bool.eq_false_iff.mpr c17
                subst c17
                have H1 : (some false) = some r := by rw [if_neg (show ¬ (false = true) by decide)] at H; exact H
                clear H
                have H := H1
                clear H1
                obtain rfl := Option.some.inj H
                go_wp2_with (first | ((with_reducible refine gate_callee (f := 9) rfl ?_); refine goesL_ (some 34) rfl rfl Tryd.func9 (by kernel_rfl) rfl #[.string t228] rfl (by (try simp only [List.map_toArray, List.map_cons, List.map_nil]); first | done | rfl | (simp only [List.length_drop, List.length_take]; rfl)) ?_; (with_reducible refine (names_Split.calls kj6 t228 t232 t233 _ A12.out).mono ?_); rintro e w41 ⟨v234, rfl, ho0, hb⟩; refine ⟨_, rfl, ?_⟩; have n0_ := Aside0.mk (Kd.R_lower ho0 (below_size (by repeat (first | (with_reducible first | exact HB.out | apply below_alloc | apply pw_below_drewN | apply below_drew1) | exact HB.out)))); have n1_ := Aside0.mk (below_step (by repeat (first | (with_reducible first | exact HB.out | apply below_alloc | apply pw_below_drewN | apply below_drew1) | exact HB.out)) hb); clear HB; have HO235 := n0_; have HB := n1_; clear n0_ n1_; (try clear hb); (try clear hb2); (try clear hk); (try clear hi); (try clear ho0)) | ((with_reducible refine gate_callee (f := 22) rfl ?_); refine goesL_ (some 39) rfl rfl Tryd.func22 (by kernel_rfl) rfl #[.slice A0 l0.length c0, .slice A1 l1.length c1] rfl (by (try simp only [List.map_toArray, List.map_cons, List.map_nil]); first | done | rfl | (simp only [List.length_drop, List.length_take]; rfl)) ?_; (with_reducible refine (names_Lead.calls _ _ l0 _ _ l1 t236 _ ?side1 ?side2 ?side3 ?side4 A13.out).mono ?_); (case side1 => repeat (first | exact (Kd.C_below HR0.out HB.out) | (with_reducible refine Kd.C_alloc ?_ _) | (with_reducible refine Kd.C_drewN ?_ _) | (with_reducible refine Kd.C_drew ?_))); (case side2 => exact HC0.out); (case side3 => repeat (first | exact (Kd.C_below HR1.out HB.out) | (with_reducible refine Kd.C_alloc ?_ _) | (with_reducible refine Kd.C_drewN ?_ _) | (with_reducible refine Kd.C_drew ?_))); (case side4 => exact HC1.out); rintro e w42 ⟨v237, rfl, ho0, hb⟩; refine ⟨_, rfl, ?_⟩; have n0_ := Aside0.mk (Kd.R_elder' (by (with_reducible repeat (first | apply Kd.R_alloc | apply Kd.R_drewN | apply Kd.R_drew)); exact HO235.out) (Kd.R_base ho0) hb); have n1_ := Aside0.mk (Kd.R_lower (Kd.R_new' ho0 (Kd.R_lt (by (with_reducible repeat (first | apply Kd.R_alloc | apply Kd.R_drewN | apply Kd.R_drew)); exact HO235.out))) (below_size (by repeat (first | (with_reducible first | exact HB.out | apply below_alloc | apply pw_below_drewN | apply below_drew1) | exact HB.out)))); have n2_ := Aside0.mk (below_step (by repeat (first | (with_reducible first | exact HB.out | apply below_alloc | apply pw_below_drewN | apply below_drew1) | exact HB.out)) hb); clear HO235; clear HB; have HO235 := n0_; have HO238 := n1_; have HB := n2_; clear n0_ n1_ n2_; (try clear hb); (try clear hb2); (try clear hk); (try clear hi); (try clear ho0); obtain ⟨Ao43, co43, eo43⟩ := Kd.R_slice HO235.out; subst eo43) | (go_at_call 13; (with_reducible refine (escritoireref04_SameTexts.calls kj6 _ _ l0 _ _ t232 false _ ?side1 ?side2 ?side3 ?side4 A16.out).mono ?_); (case side1 => repeat (first | exact (Kd.C_below HR0.out HB.out) | (with_reducible refine Kd.C_alloc ?_ _) | (with_reducible refine Kd.C_drewN ?_ _) | (with_reducible refine Kd.C_drew ?_))); (case side2 => exact HC0.out); (case side3 => repeat (first | exact (Kd.R_reads' HO235.out).2.2 | (with_reducible refine Kd.C_alloc ?_ _) | (with_reducible refine Kd.C_drewN ?_ _) | (with_reducible refine Kd.C_drew ?_))); (case side4 => exact (Kd.R_reads' HO235.out).2.1); rintro e w' ⟨rfl, ⟨nd, rfl⟩⟩))
                go_ret
                exact ⟨by first | rfl | (simp [errW_none, errW_some] <;> rfl) | (simp [*, errW_none, errW_some] <;> rfl), by repeat (first | (with_reducible first | exact HB.out | apply below_alloc | apply pw_below_drewN | apply below_drew1) | exact HB.out)⟩
            · rw [if_neg c15] at H
              have c15b0 : (t233 == 0) = false := beq_eq_false_iff_ne.mpr c15
              have c15b1 : (t233 != 0) = true := bne_iff_ne.mpr c15
              obtain rfl := Option.some.inj H
              go_wp2_with (first | ((with_reducible refine gate_callee (f := 9) rfl ?_); refine goesL_ (some 34) rfl rfl Tryd.func9 (by kernel_rfl) rfl #[.string t228] rfl (by (try simp only [List.map_toArray, List.map_cons, List.map_nil]); first | done | rfl | (simp only [List.length_drop, List.length_take]; rfl)) ?_; (with_reducible refine (names_Split.calls kj6 t228 t232 t233 _ A12.out).mono ?_); rintro e w44 ⟨v234, rfl, ho0, hb⟩; refine ⟨_, rfl, ?_⟩; have n0_ := Aside0.mk (Kd.R_lower ho0 (below_size (by repeat (first | (with_reducible first | exact HB.out | apply below_alloc | apply pw_below_drewN | apply below_drew1) | exact HB.out)))); have n1_ := Aside0.mk (below_step (by repeat (first | (with_reducible first | exact HB.out | apply below_alloc | apply pw_below_drewN | apply below_drew1) | exact HB.out)) hb); clear HB; have HO235 := n0_; have HB := n1_; clear n0_ n1_; (try clear hb); (try clear hb2); (try clear hk); (try clear hi); (try clear ho0)) | ((with_reducible refine gate_callee (f := 22) rfl ?_); refine goesL_ (some 39) rfl rfl Tryd.func22 (by kernel_rfl) rfl #[.slice A0 l0.length c0, .slice A1 l1.length c1] rfl (by (try simp only [List.map_toArray, List.map_cons, List.map_nil]); first | done | rfl | (simp only [List.length_drop, List.length_take]; rfl)) ?_; (with_reducible refine (names_Lead.calls _ _ l0 _ _ l1 t236 _ ?side1 ?side2 ?side3 ?side4 A13.out).mono ?_); (case side1 => repeat (first | exact (Kd.C_below HR0.out HB.out) | (with_reducible refine Kd.C_alloc ?_ _) | (with_reducible refine Kd.C_drewN ?_ _) | (with_reducible refine Kd.C_drew ?_))); (case side2 => exact HC0.out); (case side3 => repeat (first | exact (Kd.C_below HR1.out HB.out) | (with_reducible refine Kd.C_alloc ?_ _) | (with_reducible refine Kd.C_drewN ?_ _) | (with_reducible refine Kd.C_drew ?_))); (case side4 => exact HC1.out); rintro e w45 ⟨v237, rfl, ho0, hb⟩; refine ⟨_, rfl, ?_⟩; have n0_ := Aside0.mk (Kd.R_elder' (by (with_reducible repeat (first | apply Kd.R_alloc | apply Kd.R_drewN | apply Kd.R_drew)); exact HO235.out) (Kd.R_base ho0) hb); have n1_ := Aside0.mk (Kd.R_lower (Kd.R_new' ho0 (Kd.R_lt (by (with_reducible repeat (first | apply Kd.R_alloc | apply Kd.R_drewN | apply Kd.R_drew)); exact HO235.out))) (below_size (by repeat (first | (with_reducible first | exact HB.out | apply below_alloc | apply pw_below_drewN | apply below_drew1) | exact HB.out)))); have n2_ := Aside0.mk (below_step (by repeat (first | (with_reducible first | exact HB.out | apply below_alloc | apply pw_below_drewN | apply below_drew1) | exact HB.out)) hb); clear HO235; clear HB; have HO235 := n0_; have HO238 := n1_; have HB := n2_; clear n0_ n1_ n2_; (try clear hb); (try clear hb2); (try clear hk); (try clear hi); (try clear ho0)))
              go_ret
              exact ⟨by first | rfl | (simp [errW_none, errW_some] <;> rfl) | (simp [*, errW_none, errW_some] <;> rfl), by repeat (first | (with_reducible first | exact HB.out | apply below_alloc | apply pw_below_drewN | apply below_drew1) | exact HB.out)⟩
          · rw [if_neg c14] at H
            have c14b0 : (t229 == 0) = false := beq_eq_false_iff_ne.mpr c14
            have c14b1 : (t229 != 0) = true := bne_iff_ne.mpr c14
            by_cases c46 : (t236.length : Int) = (wrap64 ((l0.length : Int) + (l1.length : Int)))
            · rw [if_pos c46] at H
              have c46b0 : ((t236.length : Int) == (wrap64 ((l0.length : Int) + (l1.length : Int)))) = true := beq_iff_eq.mpr c46
              have c46b1 : ((t236.length : Int) != (wrap64 ((l0.length : Int) + (l1.length : Int)))) = false := bne_eq_false_iff_eq.mpr c46
              clear c46
              by_cases c47 : 0 ≤ (l0.length : Int)
              · rw [if_pos c47] at H
                have c47b0 := eq_true c47
                have c47b1 : decide (0 ≤ (l0.length : Int)) = true := decide_eq_true c47
                clear c47
                by_cases c48 : (l0.length : Int) ≤ (t236.length : Int)
                · rw [if_pos c48] at H
                  have c48b0 := eq_true c48
                  have c48b1 : decide ((l0.length : Int) ≤ (t236.length : Int)) = true := decide_eq_true c48
                  clear c48
                  obtain ⟨y250, hy250⟩ : ∃ y_ : List ByteArray, y_ = (t236.take ((l0.length : Int) : Int).toNat) := ⟨_, rfl⟩
                  replace H : ((escritoireref04_SameTexts.f kj6 y250 l0).bind fun t254 => (if t254 = true then ((escritoireref04_SameTexts.f kj6 (t236.drop ((l0.length : Int) : Int).toNat) l1).bind fun t259 => (some t259)) else (some false))) = some r := by first | (rw [hy250]; with_reducible exact H) | (have H2_ := (Option.bind_some _ _).symm.trans H; rw [hy250]; with_reducible exact H2_) | (have H2_ := (Option.bind_some _ _).symm.trans H; with_reducible exact H2_) | with_reducible exact H | (rw [hy250]; exact H) | exact H
                  have Ny250 := Aside0.mk hy250
                  clear hy250
                  replace H := Option.bind_eq_some_iff.mp H
                  obtain ⟨t254, A490, H⟩ := H
                  replace H : (if t254 = true then ((escritoireref04_SameTexts.f kj6 (t236.drop ((l0.length : Int) : Int).toNat) l1).bind fun t259 => (some t259)) else (some false)) = some r := H
                  have A49 := Aside0.mk A490
                  clear A490
                  by_cases c50 : t254 = true
                  · subst c50
                    have H1 : ((escritoireref04_SameTexts.f kj6 (t236.drop ((l0.length : Int) : Int).toNat) l1).bind fun t259 => (some t259)) = some r := by rw [if_pos rfl] at H; exact H
                    clear H
                    have H := H1
                    clear H1
                    have c51b0 := eq_true (of_decide_eq_true (by first | (with_reducible assumption) | assumption) : 0 ≤ (l0.length : Int))
                    have c52b0 := eq_true (of_decide_eq_true (by first | (with_reducible assumption) | assumption) : (l0.length : Int) ≤ (t236.length : Int))
                    obtain ⟨y255, hy255⟩ : ∃ y_ : List ByteArray, y_ = (t236.drop ((l0.length : Int) : Int).toNat) := ⟨_, rfl⟩
                    replace H : ((escritoireref04_SameTexts.f kj6 y255 l1).bind fun t259 => (some t259)) = some r := by first | (rw [hy255]; with_reducible exact H) | (have H2_ := (Option.bind_some _ _).symm.trans H; rw [hy255]; with_reducible exact H2_) | (have H2_ := (Option.bind_some _ _).symm.trans H; with_reducible exact H2_) | with_reducible exact H | (rw [hy255]; exact H) | exact H
                    have Ny255 := Aside0.mk hy255
                    clear hy255
                    replace H := Option.bind_eq_some_iff.mp H
                    obtain ⟨t259, A530, H⟩ := H
                    replace H : (some t259) = some r := H
                    have A53 := Aside0.mk A530
                    clear A530
                    obtain rfl := Option.some.inj H
                    go_wp2_with (first | ((with_reducible refine gate_callee (f := 9) rfl ?_); refine goesL_ (some 34) rfl rfl Tryd.func9 (by kernel_rfl) rfl #[.string t228] rfl (by (try simp only [List.map_toArray, List.map_cons, List.map_nil]); first | done | rfl | (simp only [List.length_drop, List.length_take]; rfl)) ?_; (with_reducible refine (names_Split.calls kj6 t228 t232 t233 _ A12.out).mono ?_); rintro e w54 ⟨v234, rfl, ho0, hb⟩; refine ⟨_, rfl, ?_⟩; have n0_ := Aside0.mk (Kd.R_lower ho0 (below_size (by repeat (first | (with_reducible first | exact HB.out | apply below_alloc | apply pw_below_drewN | apply below_drew1) | exact HB.out)))); have n1_ := Aside0.mk (below_step (by repeat (first | (with_reducible first | exact HB.out | apply below_alloc | apply pw_below_drewN | apply below_drew1) | exact HB.out)) hb); clear HB; have HO235 := n0_; have HB := n1_; clear n0_ n1_; (try clear hb); (try clear hb2); (try clear hk); (try clear hi); (try clear ho0)) | ((with_reducible refine gate_callee (f := 22) rfl ?_); refine goesL_ (some 39) rfl rfl Tryd.func22 (by kernel_rfl) rfl #[.slice A0 l0.length c0, .slice A1 l1.length c1] rfl (by (try simp only [List.map_toArray, List.map_cons, List.map_nil]); first | done | rfl | (simp only [List.length_drop, List.length_take]; rfl)) ?_; (with_reducible refine (names_Lead.calls _ _ l0 _ _ l1 t236 _ ?side1 ?side2 ?side3 ?side4 A13.out).mono ?_); (case side1 => repeat (first | exact (Kd.C_below HR0.out HB.out) | (with_reducible refine Kd.C_alloc ?_ _) | (with_reducible refine Kd.C_drewN ?_ _) | (with_reducible refine Kd.C_drew ?_))); (case side2 => exact HC0.out); (case side3 => repeat (first | exact (Kd.C_below HR1.out HB.out) | (with_reducible refine Kd.C_alloc ?_ _) | (with_reducible refine Kd.C_drewN ?_ _) | (with_reducible refine Kd.C_drew ?_))); (case side4 => exact HC1.out); rintro e w55 ⟨v237, rfl, ho0, hb⟩; refine ⟨_, rfl, ?_⟩; have n0_ := Aside0.mk (Kd.R_elder' (by (with_reducible repeat (first | apply Kd.R_alloc | apply Kd.R_drewN | apply Kd.R_drew)); exact HO235.out) (Kd.R_base ho0) hb); have n1_ := Aside0.mk (Kd.R_lower (Kd.R_new' ho0 (Kd.R_lt (by (with_reducible repeat (first | apply Kd.R_alloc | apply Kd.R_drewN | apply Kd.R_drew)); exact HO235.out))) (below_size (by repeat (first | (with_reducible first | exact HB.out | apply below_alloc | apply pw_below_drewN | apply below_drew1) | exact HB.out)))); have n2_ := Aside0.mk (below_step (by repeat (first | (with_reducible first | exact HB.out | apply below_alloc | apply pw_below_drewN | apply below_drew1) | exact HB.out)) hb); clear HO235; clear HB; have HO235 := n0_; have HO238 := n1_; have HB := n2_; clear n0_ n1_ n2_; (try clear hb); (try clear hb2); (try clear hk); (try clear hi); (try clear ho0); obtain ⟨Ao56, co56, eo56⟩ := Kd.R_slice HO238.out; subst eo56; have q57 : ((l0.length : Int) : Int) ≤ ((t236.length : Int) : Int) := of_decide_eq_true (by first | (with_reducible assumption) | assumption); obtain ⟨i057, hi057, _, hsz57, _⟩ := info_parts info9; have hroom57 : t236.length ≤ co56 := (Kd.R_reads' HO238.out).2.1; have hC57 : Kd.C Kd.string _ Ao56 t236.length t236 := (Kd.R_reads' HO238.out).2.2; have hcut57 := cut_to (P := Tryd.prog) 23 9 .i64 Tryd.underlying23 hi057 Ao56 t236.length co56 (l0.length : Int) (of_decide_eq_true (by first | (with_reducible assumption) | assumption)) q57 hroom57; have hr57 := Kd.C_take (m := ((l0.length : Int) : Int).toNat) hC57 (by omega); have hy57 : y250.length = ((l0.length : Int) : Int).toNat := (by rw [Ny250.out, List.length_take]; omega); rw [← Ny250.out] at hr57; rw [← hy57] at hcut57; have HR253 := Aside0.mk hr57; have HC253 := Aside0.mk (show y250.length ≤ co56 from by omega); clear hr57 hC57 hroom57 hi057 hsz57; have KY57 := Aside0.mk hy57; clear hy57; have KL57 := Aside0.mk (show ((l0.length : Int) : Int).toNat ≤ t236.length from by omega); replace q57 := eq_true q57) | (go_at_call 13; (with_reducible refine (escritoireref04_SameTexts.calls kj6 _ _ y250 _ _ l0 true _ ?side1 ?side2 ?side3 ?side4 A49.out).mono ?_); (case side1 => repeat (first | exact (by repeat (first | (with_reducible exact HR253.out) | (with_reducible refine Kd.C_alloc ?_ _) | (with_reducible refine Kd.C_drewN ?_ _) | (with_reducible refine Kd.C_drew ?_) | exact HR253.out)) | (with_reducible refine Kd.C_alloc ?_ _) | (with_reducible refine Kd.C_drewN ?_ _) | (with_reducible refine Kd.C_drew ?_))); (case side2 => exact HC253.out); (case side3 => repeat (first | exact (Kd.C_below HR0.out HB.out) | (with_reducible refine Kd.C_alloc ?_ _) | (with_reducible refine Kd.C_drewN ?_ _) | (with_reducible refine Kd.C_drew ?_))); (case side4 => exact HC0.out); rintro e w' ⟨rfl, ⟨nd, rfl⟩⟩; have q58 : ((l0.length : Int) : Int) ≤ ((t236.length : Int) : Int) := of_decide_eq_true (by first | (with_reducible assumption) | assumption); obtain ⟨i058, hi058, _, hsz58, _⟩ := info_parts info9; have hroom58 : t236.length ≤ co56 := (Kd.R_reads' HO238.out).2.1; have hC58 : Kd.C Kd.string _ Ao56 t236.length t236 := (Kd.R_reads' HO238.out).2.2; have q058 : (0 : Int) ≤ ((l0.length : Int) : Int) := of_decide_eq_true (by first | (with_reducible assumption) | assumption); have hcut58 := cut_from (P := Tryd.prog) 23 9 .i64 Tryd.underlying23 hi058 1 hsz58 Ao56 t236.length co56 (l0.length : Int) q058 q58; have hr58 := Kd.C_drop (m := ((l0.length : Int) : Int).toNat) (c := co56) hC58 (by omega) hroom58; obtain ⟨A58, hA58⟩ : ∃ A1, A1 = (if co56 = ((l0.length : Int) : Int).toNat then Ao56 else (Ao56 : Option Addr).map (·.add (((l0.length : Int) : Int).toNat * 1))) := ⟨_, rfl⟩; obtain ⟨c58, hc58⟩ : ∃ c1, c1 = co56 - ((l0.length : Int) : Int).toNat := ⟨_, rfl⟩; have hy58 : y255.length = t236.length - ((l0.length : Int) : Int).toNat := (by rw [Ny255.out, List.length_drop] <;> omega); rw [show (t236).drop ((l0.length : Int) : Int).toNat = y255 from Ny255.out.symm] at hr58; replace hr58 : Kd.C Kd.string _ A58 y255.length y255 := (by rw [hA58]; exact hr58); rw [← hy58, ← hA58, ← hc58] at hcut58; have HR258 := Aside0.mk hr58; have HC258 := Aside0.mk (show y255.length ≤ c58 from by rw [hy58, hc58]; exact Nat.sub_le_sub_right hroom58 _); clear hr58 hC58 hroom58 hi058 hsz58 hc58; have KY58 := Aside0.mk hy58; have KA58 := Aside0.mk hA58; clear hy58 hA58; have KL58 := Aside0.mk (show ((l0.length : Int) : Int).toNat ≤ t236.length from by omega); replace q58 := eq_true q58) | (go_at_call 13; (with_reducible refine (escritoireref04_SameTexts.calls kj6 _ _ y255 _ _ l1 t259 _ ?side1 ?side2 ?side3 ?side4 A53.out).mono ?_); (case side1 => repeat (first | exact (by repeat (first | (with_reducible exact HR258.out) | (with_reducible refine Kd.C_alloc ?_ _) | (with_reducible refine Kd.C_drewN ?_ _) | (with_reducible refine Kd.C_drew ?_) | exact HR258.out)) | (with_reducible refine Kd.C_alloc ?_ _) | (with_reducible refine Kd.C_drewN ?_ _) | (with_reducible refine Kd.C_drew ?_))); (case side2 => exact HC258.out); (case side3 => repeat (first | exact (Kd.C_below HR1.out (by repeat (first | (with_reducible first | exact HB.out | apply below_alloc | apply pw_below_drewN | apply below_drew1) | exact HB.out))) | (with_reducible refine Kd.C_alloc ?_ _) | (with_reducible refine Kd.C_drewN ?_ _) | (with_reducible refine Kd.C_drew ?_))); (case side4 => exact HC1.out); rintro e w' ⟨rfl, ⟨nd, rfl⟩⟩))
                    go_ret
                    exact ⟨by first | rfl | (simp [errW_none, errW_some] <;> rfl) | (simp [*, errW_none, errW_some] <;> rfl), by repeat (first | (with_reducible first | exact HB.out | apply below_alloc | apply pw_below_drewN | apply below_drew1) | exact HB.out)⟩
                  · replace c50 := Bool.eq_false_iff.mpr c50
                    subst c50
                    have H1 : (some false) = some r := by rw [if_neg (show ¬ (false = true) by decide)] at H; exact H
                    clear H
                    have H := H1
                    clear H1
                    obtain rfl := Option.some.inj H
                    go_wp2_with (first | ((with_reducible refine gate_callee (f := 9) rfl ?_); refine goesL_ (some 34) rfl rfl Tryd.func9 (by kernel_rfl) rfl #[.string t228] rfl (by (try simp only [List.map_toArray, List.map_cons, List.map_nil]); first | done | rfl | (simp only [List.length_drop, List.length_take]; rfl)) ?_; (with_reducible refine (names_Split.calls kj6 t228 t232 t233 _ A12.out).mono ?_); rintro e w59 ⟨v234, rfl, ho0, hb⟩; refine ⟨_, rfl, ?_⟩; have n0_ := Aside0.mk (Kd.R_lower ho0 (below_size (by repeat (first | (with_reducible first | exact HB.out | apply below_alloc | apply pw_below_drewN | apply below_drew1) | exact HB.out)))); have n1_ := Aside0.mk (below_step (by repeat (first | (with_reducible first | exact HB.out | apply below_alloc | apply pw_below_drewN | apply below_drew1) | exact HB.out)) hb); clear HB; have HO235 := n0_; have HB := n1_; clear n0_ n1_; (try clear hb); (try clear hb2); (try clear hk); (try clear hi); (try clear ho0)) | ((with_reducible refine gate_callee (f := 22) rfl ?_); refine goesL_ (some 39) rfl rfl Tryd.func22 (by kernel_rfl) rfl #[.slice A0 l0.length c0, .slice A1 l1.length c1] rfl (by (try simp only [List.map_toArray, List.map_cons, List.map_nil]); first | done | rfl | (simp only [List.length_drop, List.length_take]; rfl)) ?_; (with_reducible refine (names_Lead.calls _ _ l0 _ _ l1 t236 _ ?side1 ?side2 ?side3 ?side4 A13.out).mono ?_); (case side1 => repeat (first | exact (Kd.C_below HR0.out HB.out) | (with_reducible refine Kd.C_alloc ?_ _) | (with_reducible refine Kd.C_drewN ?_ _) | (with_reducible refine Kd.C_drew ?_))); (case side2 => exact HC0.out); (case side3 => repeat (first | exact (Kd.C_below HR1.out HB.out) | (with_reducible refine Kd.C_alloc ?_ _) | (with_reducible refine Kd.C_drewN ?_ _) | (with_reducible refine Kd.C_drew ?_))); (case side4 => exact HC1.out); rintro e w60 ⟨v237, rfl, ho0, hb⟩; refine ⟨_, rfl, ?_⟩; have n0_ := Aside0.mk (Kd.R_elder' (by (with_reducible repeat (first | apply Kd.R_alloc | apply Kd.R_drewN | apply Kd.R_drew)); exact HO235.out) (Kd.R_base ho0) hb); have n1_ := Aside0.mk (Kd.R_lower (Kd.R_new' ho0 (Kd.R_lt (by (with_reducible repeat (first | apply Kd.R_alloc | apply Kd.R_drewN | apply Kd.R_drew)); exact HO235.out))) (below_size (by repeat (first | (with_reducible first | exact HB.out | apply below_alloc | apply pw_below_drewN | apply below_drew1) | exact HB.out)))); have n2_ := Aside0.mk (below_step (by repeat (first | (with_reducible first | exact HB.out | apply below_alloc | apply pw_below_drewN | apply below_drew1) | exact HB.out)) hb); clear HO235; clear HB; have HO235 := n0_; have HO238 := n1_; have HB := n2_; clear n0_ n1_ n2_; (try clear hb); (try clear hb2); (try clear hk); (try clear hi); (try clear ho0); obtain ⟨Ao61, co61, eo61⟩ := Kd.R_slice HO238.out; subst eo61; have q62 : ((l0.length : Int) : Int) ≤ ((t236.length : Int) : Int) := of_decide_eq_true (by first | (with_reducible assumption) | assumption); obtain ⟨i062, hi062, _, hsz62, _⟩ := info_parts info9; have hroom62 : t236.length ≤ co61 := (Kd.R_reads' HO238.out).2.1; have hC62 : Kd.C Kd.string _ Ao61 t236.length t236 := (Kd.R_reads' HO238.out).2.2; have hcut62 := cut_to (P := Tryd.prog) 23 9 .i64 Tryd.underlying23 hi062 Ao61 t236.length co61 (l0.length : Int) (of_decide_eq_true (by first | (with_reducible assumption) | assumption)) q62 hroom62; have hr62 := Kd.C_take (m := ((l0.length : Int) : Int).toNat) hC62 (by omega); have hy62 : y250.length = ((l0.length : Int) : Int).toNat := (by rw [Ny250.out, List.length_take]; omega); rw [← Ny250.out] at hr62; rw [← hy62] at hcut62; have HR253 := Aside0.mk hr62; have HC253 := Aside0.mk (show y250.length ≤ co61 from by omega); clear hr62 hC62 hroom62 hi062 hsz62; have KY62 := Aside0.mk hy62; clear hy62; have KL62 := Aside0.mk (show ((l0.length : Int) : Int).toNat ≤ t236.length from by omega); replace q62 := eq_true q62) | (go_at_call 13; (with_reducible refine (escritoireref04_SameTexts.calls kj6 _ _ y250 _ _ l0 false _ ?side1 ?side2 ?side3 ?side4 A49.out).mono ?_); (case side1 => repeat (first | exact (by repeat (first | (with_reducible exact HR253.out) | (with_reducible refine Kd.C_alloc ?_ _) | (with_reducible refine Kd.C_drewN ?_ _) | (with_reducible refine Kd.C_drew ?_) | exact HR253.out)) | (with_reducible refine Kd.C_alloc ?_ _) | (with_reducible refine Kd.C_drewN ?_ _) | (with_reducible refine Kd.C_drew ?_))); (case side2 => exact HC253.out); (case side3 => repeat (first | exact (Kd.C_below HR0.out HB.out) | (with_reducible refine Kd.C_alloc ?_ _) | (with_reducible refine Kd.C_drewN ?_ _) | (with_reducible refine Kd.C_drew ?_))); (case side4 => exact HC0.out); rintro e w' ⟨rfl, ⟨nd, rfl⟩⟩))
                    go_ret
                    exact ⟨by first | rfl | (simp [errW_none, errW_some] <;> rfl) | (simp [*, errW_none, errW_some] <;> rfl), by repeat (first | (with_reducible first | exact HB.out | apply below_alloc | apply pw_below_drewN | apply below_drew1) | exact HB.out)⟩
                · rw [if_neg c48] at H
                  exact absurd H (by simp)
              · rw [if_neg c47] at H
                exact absurd H (by simp)
            · rw [if_neg c46] at H
              have c46b0 : ((t236.length : Int) == (wrap64 ((l0.length : Int) + (l1.length : Int)))) = false := beq_eq_false_iff_ne.mpr c46
              have c46b1 : ((t236.length : Int) != (wrap64 ((l0.length : Int) + (l1.length : Int)))) = true := bne_iff_ne.mpr c46
              obtain rfl := Option.some.inj H
              go_wp2_with (first | ((with_reducible refine gate_callee (f := 9) rfl ?_); refine goesL_ (some 34) rfl rfl Tryd.func9 (by kernel_rfl) rfl #[.string t228] rfl (by (try simp only [List.map_toArray, List.map_cons, List.map_nil]); first | done | rfl | (simp only [List.length_drop, List.length_take]; rfl)) ?_; (with_reducible refine (names_Split.calls kj6 t228 t232 t233 _ A12.out).mono ?_); rintro e w63 ⟨v234, rfl, ho0, hb⟩; refine ⟨_, rfl, ?_⟩; have n0_ := Aside0.mk (Kd.R_lower ho0 (below_size (by repeat (first | (with_reducible first | exact HB.out | apply below_alloc | apply pw_below_drewN | apply below_drew1) | exact HB.out)))); have n1_ := Aside0.mk (below_step (by repeat (first | (with_reducible first | exact HB.out | apply below_alloc | apply pw_below_drewN | apply below_drew1) | exact HB.out)) hb); clear HB; have HO235 := n0_; have HB := n1_; clear n0_ n1_; (try clear hb); (try clear hb2); (try clear hk); (try clear hi); (try clear ho0)) | ((with_reducible refine gate_callee (f := 22) rfl ?_); refine goesL_ (some 39) rfl rfl Tryd.func22 (by kernel_rfl) rfl #[.slice A0 l0.length c0, .slice A1 l1.length c1] rfl (by (try simp only [List.map_toArray, List.map_cons, List.map_nil]); first | done | rfl | (simp only [List.length_drop, List.length_take]; rfl)) ?_; (with_reducible refine (names_Lead.calls _ _ l0 _ _ l1 t236 _ ?side1 ?side2 ?side3 ?side4 A13.out).mono ?_); (case side1 => repeat (first | exact (Kd.C_below HR0.out HB.out) | (with_reducible refine Kd.C_alloc ?_ _) | (with_reducible refine Kd.C_drewN ?_ _) | (with_reducible refine Kd.C_drew ?_))); (case side2 => exact HC0.out); (case side3 => repeat (first | exact (Kd.C_below HR1.out HB.out) | (with_reducible refine Kd.C_alloc ?_ _) | (with_reducible refine Kd.C_drewN ?_ _) | (with_reducible refine Kd.C_drew ?_))); (case side4 => exact HC1.out); rintro e w64 ⟨v237, rfl, ho0, hb⟩; refine ⟨_, rfl, ?_⟩; have n0_ := Aside0.mk (Kd.R_elder' (by (with_reducible repeat (first | apply Kd.R_alloc | apply Kd.R_drewN | apply Kd.R_drew)); exact HO235.out) (Kd.R_base ho0) hb); have n1_ := Aside0.mk (Kd.R_lower (Kd.R_new' ho0 (Kd.R_lt (by (with_reducible repeat (first | apply Kd.R_alloc | apply Kd.R_drewN | apply Kd.R_drew)); exact HO235.out))) (below_size (by repeat (first | (with_reducible first | exact HB.out | apply below_alloc | apply pw_below_drewN | apply below_drew1) | exact HB.out)))); have n2_ := Aside0.mk (below_step (by repeat (first | (with_reducible first | exact HB.out | apply below_alloc | apply pw_below_drewN | apply below_drew1) | exact HB.out)) hb); clear HO235; clear HB; have HO235 := n0_; have HO238 := n1_; have HB := n2_; clear n0_ n1_ n2_; (try clear hb); (try clear hb2); (try clear hk); (try clear hi); (try clear ho0); obtain ⟨Ao65, co65, eo65⟩ := Kd.R_slice HO238.out; subst eo65))
              go_ret
              exact ⟨by first | rfl | (simp [errW_none, errW_some] <;> rfl) | (simp [*, errW_none, errW_some] <;> rfl), by repeat (first | (with_reducible first | exact HB.out | apply below_alloc | apply pw_below_drewN | apply below_drew1) | exact HB.out)⟩
  · replace c4 := Bool.eq_false_iff.mpr c4
    subst c4
    have H1 : (some false) = some r := by rw [if_neg (show ¬ (false = true) by decide)] at H; exact H
    clear H
    have H := H1
    clear H1
    obtain rfl := Option.some.inj H
    go_enter Tryd.func7, Tryd.ntmps7
    go_wp2_with (first | ((with_reducible refine gate_callee (f := 8) rfl ?_); refine goesL_ (some 12) rfl rfl Tryd.func8 (by kernel_rfl) rfl #[] rfl (by (try simp only [List.map_toArray, List.map_cons, List.map_nil]); first | done | rfl | (simp only [List.length_drop, List.length_take]; rfl)) ?_; (with_reducible refine (escritoirelaw04_lives.calls k  false _ A3.out).mono ?_); rintro e w66 ⟨rfl, hb⟩; refine ⟨_, rfl, ?_⟩; have n0_ := Aside0.mk (below_step (by repeat (first | (with_reducible first | exact HB.out | apply below_alloc | apply pw_below_drewN | apply below_drew1) | exact HB.out)) hb); clear HB; have HB := n0_; clear n0_; (try clear hb); (try clear hb2); (try clear hk); (try clear hi)))
    go_ret
    exact ⟨by first | rfl | (simp [errW_none, errW_some] <;> rfl) | (simp [*, errW_none, errW_some] <;> rfl), by repeat (first | (with_reducible first | exact HB.out | apply below_alloc | apply pw_below_drewN | apply below_drew1) | exact HB.out)⟩

end Go.Proofs.YtmbpaienbmbhfaaDoor.Print
