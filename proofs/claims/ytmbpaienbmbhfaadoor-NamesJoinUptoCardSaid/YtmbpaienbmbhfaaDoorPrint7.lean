-- Made by wip/tools/wprint.py, a program of this workplace, over the translation. Lean checks it.
import Derived.Test.YtmbpaienbmbhfaaDoorPrint0
import Derived.Test.YtmbpaienbmbhfaaDoorPrint3
import Derived.Test.YtmbpaienbmbhfaaDoorPrint4
import Derived.Test.YtmbpaienbmbhfaaDoorPrint6
import Derived.Test.YtmbpaienbmbhfaaDoorHwordsHash
namespace Go.Proofs.YtmbpaienbmbhfaaDoor.Print
open Go.RowKit Go.Proofs.YtmbpaienbmbhfaaDoorW.PrintWords Go.Proofs.YtmbpaienbmbhfaaDoorW.PrintLast Go.Proofs.YtmbpaienbmbhfaaDoorW.PrintMore
attribute [local go_sem] max2_int min2_int max_two min_two max_three min_three max_four min_four   -- for this text's walks alone
set_option linter.unusedVariables false
set_option linter.unusedSimpArgs false

/-! ### names_Bucket: function 19 -/
def names_Bucket.f (a0 : ByteArray) (a1 : Int) : Option (Int) := if a1 < 1 then (some 0) else ((words_Hash.f a0).bind fun t207 => (if (IntKind.u64.wrap (a1)) = 0 then (none) else (some (wrap64 (Int.tmod t207 (IntKind.u64.wrap (a1)))))))
set_option maxHeartbeats 8000000 in
set_option maxRecDepth 100000 in
theorem names_Bucket.calls (a0 : ByteArray) (a1 : Int) (r : Int) (w : World) (h : names_Bucket.f a0 a1 = some r) :
    Calls Tryd.prog 19 #[.string a0, .int .i64 a1] w fun e w' => e = .returned (.int .i64 r) ∧ Below w.heap.size w w' := by
  have HB := Aside0.mk (Below.refl w.heap.size w)
  have H : (if a1 < 1 then (some 0) else ((words_Hash.f a0).bind fun t207 => (if (IntKind.u64.wrap (a1)) = 0 then (none) else (some (wrap64 (Int.tmod t207 (IntKind.u64.wrap (a1)))))))) = some r := h
  clear h
  by_cases c3 : a1 < 1
  · rw [if_pos c3] at H
    have c3b0 : decide (a1 < 1) = true := decide_eq_true c3
    clear c3
    obtain rfl := Option.some.inj H
    go_enter Tryd.func19, Tryd.ntmps19
    go_wp2
    go_ret
    exact ⟨by first | rfl | (simp [errW_none, errW_some] <;> rfl) | (simp [*, errW_none, errW_some] <;> rfl), by repeat (first | (with_reducible first | exact HB.out | apply below_alloc | apply pw_below_drewN | apply below_drew1) | exact HB.out)⟩
  · rw [if_neg c3] at H
    have c3b0 : decide (a1 < 1) = false := decide_eq_false c3
    clear c3
    replace H := Option.bind_eq_some_iff.mp H
    obtain ⟨t207, A40, H⟩ := H
    replace H : (if (IntKind.u64.wrap (a1)) = 0 then (none) else (some (wrap64 (Int.tmod t207 (IntKind.u64.wrap (a1)))))) = some r := H
    have A4 := Aside0.mk A40
    clear A40
    by_cases c5 : (IntKind.u64.wrap (a1)) = 0
    · rw [if_pos c5] at H
      exact absurd H (by simp)
    · rw [if_neg c5] at H
      have c5b0 : ((IntKind.u64.wrap (a1)) == 0) = false := beq_eq_false_iff_ne.mpr c5
      have c5b1 : ((IntKind.u64.wrap (a1)) != 0) = true := bne_iff_ne.mpr c5
      obtain rfl := Option.some.inj H
      go_enter Tryd.func19, Tryd.ntmps19
      go_wp2_with (first | ((with_reducible refine gate_callee (f := 30) rfl ?_); refine goesL_ (some 8) rfl rfl Tryd.func30 (by kernel_rfl) rfl #[.string a0] rfl (by (try simp only [List.map_toArray, List.map_cons, List.map_nil]); first | done | rfl | (simp only [List.length_drop, List.length_take]; rfl)) ?_; (with_reducible refine (words_Hash.calls a0 t207 _ A4.out).mono ?_); rintro e w6 ⟨rfl, hb⟩; refine ⟨_, rfl, ?_⟩; have n0_ := Aside0.mk (below_step (by repeat (first | (with_reducible first | exact HB.out | apply below_alloc | apply pw_below_drewN | apply below_drew1) | exact HB.out)) hb); clear HB; have HB := n0_; clear n0_; (try clear hb); (try clear hb2); (try clear hk); (try clear hi)))
      go_ret
      exact ⟨by first | rfl | (simp [errW_none, errW_some] <;> rfl) | (simp [*, errW_none, errW_some] <;> rfl), by repeat (first | (with_reducible first | exact HB.out | apply below_alloc | apply pw_below_drewN | apply below_drew1) | exact HB.out)⟩

/-! ### escritoireref01_Hash: function 31 -/
def escritoireref01_Hash.l0 : Nat → ByteArray → Int → Int → Option (Int)
  | 0, _, _, _ => none
  | k + 1, x0, x3, x4 => if x4 < (x0.size : Int) then (if 0 ≤ x4 then (escritoireref01_Hash.l0 k x0 (IntKind.u64.wrap ((Go.bits .xor .u64 x3 (IntKind.u64.wrap (bt x0 x4))) * 1099511628211)) (wrap64 (x4 + 1))) else (none)) else (some x3)
def escritoireref01_Hash.f (k : Nat) (a0 : ByteArray) : Option (Int) := escritoireref01_Hash.l0 k a0 14695981039346656037 0
theorem escritoireref01_Hash.mono_l : ∀ k, (∀ y0 y1 y2, LeO (escritoireref01_Hash.l0 k y0 y1 y2) (escritoireref01_Hash.l0 (k + 1) y0 y1 y2))
  | 0 => fun _ _ _ r h => by simp [escritoireref01_Hash.l0] at h
  | k + 1 => by
    have ih0 := escritoireref01_Hash.mono_l k
    · intro y0 y1 y2
      unfold escritoireref01_Hash.l0
      repeat' first
      | (with_reducible exact ih0 _ _ _)
      | (with_reducible exact LeO.refl _)
      | (with_reducible exact LeO.none _)
      | (with_reducible refine LeO.ite ?_ ?_)
      | (with_reducible refine LeO.bind ?_ (fun _ => ?_))
      | exact ih0 _ _ _
      | exact LeO.none _
      | refine LeO.ite ?_ ?_
      | refine LeO.bind ?_ (fun _ => ?_)
theorem escritoireref01_Hash.mono : ∀ a0 k, LeO (escritoireref01_Hash.f k a0) (escritoireref01_Hash.f (k + 1) a0) := by
  intro a0 k
  have ih0 := escritoireref01_Hash.mono_l k
  unfold escritoireref01_Hash.f
  repeat' first
      | (with_reducible exact ih0 _ _ _)
      | (with_reducible exact LeO.refl _)
      | (with_reducible exact LeO.none _)
      | (with_reducible refine LeO.ite ?_ ?_)
      | (with_reducible refine LeO.bind ?_ (fun _ => ?_))
      | exact ih0 _ _ _
      | exact LeO.none _
      | refine LeO.ite ?_ ?_
      | refine LeO.bind ?_ (fun _ => ?_)
set_option maxHeartbeats 8000000 in
set_option maxRecDepth 100000 in
theorem escritoireref01_Hash.calls (k : Nat) (a0 : ByteArray) (r : Int) (w : World) (h : escritoireref01_Hash.f k a0 = some r) :
    Calls Tryd.prog 31 #[.string a0] w fun e w' => e = .returned (.int .u64 r) ∧ Drawn0 w w' := by
  have H : (escritoireref01_Hash.l0 k a0 14695981039346656037 0) = some r := h
  clear h
  have H' := Aside0.mk H
  clear H
  go_enter Tryd.func31, Tryd.ntmps31
  go_wp2
  go_loopg [3, 4] k (fun kq v3 v4 w' => ∃ (x3_1 : Int) (x4_1 : Int), v3 = .int .u64 x3_1 ∧ v4 = .int .i64 x4_1 ∧ Aside0 (escritoireref01_Hash.l0 kq a0 x3_1 x4_1 = some r) ∧ Aside0 (kq ≤ k) ∧ Drawn0 w w')
  case atStart => exact ⟨(14695981039346656037), (0), (by first | rfl | (simp; done) | (simp [*]; done) | kernel_rfl), (by first | rfl | (simp; done) | (simp [*]; done) | kernel_rfl), H', ⟨Nat.le_refl _⟩, by repeat (first | exact Drawn0.refl _ | apply Drawn0.step)⟩
  case round =>
    clear H'
    obtain ⟨x3_1, x4_1, rfl, rfl, HA, HK1, ⟨m1, rfl⟩⟩ := hrel
    cases gk with
    | zero => exact absurd HA.out (by simp [escritoireref01_Hash.l0])
    | succ k1 =>
      have H := HA.out
      clear HA
      simp only [escritoireref01_Hash.l0] at H
      by_cases c2 : x4_1 < (a0.size : Int)
      · rw [if_pos c2] at H
        have c2b0 : decide (x4_1 < (a0.size : Int)) = true := decide_eq_true c2
        clear c2
        by_cases c3 : 0 ≤ x4_1
        · rw [if_pos c3] at H
          have c3b0 : decide (0 ≤ x4_1) = true := decide_eq_true c3
          clear c3
          have H' := Aside0.mk H
          clear H
          have p4 : 0 ≤ (x4_1 : Int) := of_decide_eq_true (by first | (with_reducible assumption) | assumption)
          have q4 : x4_1 < (a0.size : Int) := of_decide_eq_true (by first | (with_reducible assumption) | assumption)
          have hx4 := bt_at a0 x4_1
          replace p4 := eq_true p4
          replace q4 := eq_true q4
          go_wp2
          go_roundg k1
          case measure => have := HK1.out; omega
          case rel => exact ⟨(IntKind.u64.wrap ((Go.bits .xor .u64 x3_1 (IntKind.u64.wrap (bt a0 x4_1))) * 1099511628211)), (wrap64 (x4_1 + 1)), (by first | rfl | (simp; done) | (simp [*]; done) | kernel_rfl), (by first | rfl | (simp; done) | (simp [*]; done) | kernel_rfl), H', ⟨by have := HK1.out; omega⟩, by repeat (first | exact Drawn0.refl _ | apply Drawn0.step)⟩
        · rw [if_neg c3] at H
          exact absurd H (by simp)
      · rw [if_neg c2] at H
        have c2b0 : decide (x4_1 < (a0.size : Int)) = false := decide_eq_false c2
        clear c2
        obtain rfl := Option.some.inj H
        go_wp2
        go_ret
        exact ⟨by first | rfl | (simp; done) | (simp [*]; done), by repeat (first | exact Drawn0.refl _ | apply Drawn0.step)⟩

/-! ### escritoireref04_Bucket: function 20 -/
def escritoireref04_Bucket.f (k : Nat) (a0 : ByteArray) (a1 : Int) : Option (Int) := if a1 < 1 then (some 0) else ((escritoireref01_Hash.f k a0).bind fun t208 => (if (IntKind.u64.wrap (a1)) = 0 then (none) else (some (wrap64 (Int.tmod t208 (IntKind.u64.wrap (a1)))))))
theorem escritoireref04_Bucket.mono : ∀ a0 a1 k, LeO (escritoireref04_Bucket.f k a0 a1) (escritoireref04_Bucket.f (k + 1) a0 a1) := by
  intro a0 a1 k
  unfold escritoireref04_Bucket.f
  repeat' first
      | (with_reducible exact escritoireref01_Hash.mono _ _)
      | (with_reducible exact LeO.refl _)
      | (with_reducible exact LeO.none _)
      | (with_reducible refine LeO.ite ?_ ?_)
      | (with_reducible refine LeO.bind ?_ (fun _ => ?_))
      | exact escritoireref01_Hash.mono _ _
      | exact LeO.none _
      | refine LeO.ite ?_ ?_
      | refine LeO.bind ?_ (fun _ => ?_)
set_option maxHeartbeats 8000000 in
set_option maxRecDepth 100000 in
theorem escritoireref04_Bucket.calls (k : Nat) (a0 : ByteArray) (a1 : Int) (r : Int) (w : World) (h : escritoireref04_Bucket.f k a0 a1 = some r) :
    Calls Tryd.prog 20 #[.string a0, .int .i64 a1] w fun e w' => e = .returned (.int .i64 r) ∧ Drawn0 w w' := by
  have H : (if a1 < 1 then (some 0) else ((escritoireref01_Hash.f k a0).bind fun t208 => (if (IntKind.u64.wrap (a1)) = 0 then (none) else (some (wrap64 (Int.tmod t208 (IntKind.u64.wrap (a1)))))))) = some r := h
  clear h
  by_cases c3 : a1 < 1
  · rw [if_pos c3] at H
    have c3b0 : decide (a1 < 1) = true := decide_eq_true c3
    clear c3
    obtain rfl := Option.some.inj H
    go_enter Tryd.func20, Tryd.ntmps20
    go_wp2
    go_ret
    exact ⟨by first | rfl | (simp; done) | (simp [*]; done), by repeat (first | exact Drawn0.refl _ | apply Drawn0.step)⟩
  · rw [if_neg c3] at H
    have c3b0 : decide (a1 < 1) = false := decide_eq_false c3
    clear c3
    replace H := Option.bind_eq_some_iff.mp H
    obtain ⟨t208, A40, H⟩ := H
    replace H : (if (IntKind.u64.wrap (a1)) = 0 then (none) else (some (wrap64 (Int.tmod t208 (IntKind.u64.wrap (a1)))))) = some r := H
    have A4 := Aside0.mk A40
    clear A40
    by_cases c5 : (IntKind.u64.wrap (a1)) = 0
    · rw [if_pos c5] at H
      exact absurd H (by simp)
    · rw [if_neg c5] at H
      have c5b0 : ((IntKind.u64.wrap (a1)) == 0) = false := beq_eq_false_iff_ne.mpr c5
      have c5b1 : ((IntKind.u64.wrap (a1)) != 0) = true := bne_iff_ne.mpr c5
      obtain rfl := Option.some.inj H
      go_enter Tryd.func20, Tryd.ntmps20
      go_wp2_with (first | ((with_reducible refine gate_callee (f := 31) rfl ?_); refine goesL_ (some 8) rfl rfl Tryd.func31 (by kernel_rfl) rfl #[.string a0] rfl (by (try simp only [List.map_toArray, List.map_cons, List.map_nil]); first | done | rfl | (simp only [List.length_drop, List.length_take]; rfl)) ?_; (with_reducible refine (escritoireref01_Hash.calls k a0 t208 _ A4.out).mono ?_); rintro e w' ⟨rfl, ⟨nd, rfl⟩⟩; refine ⟨_, rfl, ?_⟩))
      go_ret
      exact ⟨by first | rfl | (simp; done) | (simp [*]; done), by repeat (first | exact Drawn0.refl _ | apply Drawn0.step)⟩

/-! ### escritoirelaw04_NamesParents: function 5 -/
def escritoirelaw04_NamesParents.f (k : Nat) (a0 : ByteArray) (a1 : ByteArray) (a2 : Int) : Option (Bool) := (escritoirelaw04_lives.f k).bind fun t209 => (if t209 = true then ((names_Parent.f k a0).bind fun bt210 => ((escritoireref04_Parent.f k a0).bind fun bt213 => (if bt210.1.toList = bt213.1.toList then (if bt210.2.1.toList = bt213.2.1.toList then (if bt210.2.2 = bt213.2.2 then ((names_Under.f k a0 a1).bind fun t216 => ((escritoireref04_Under.f k a0 a1).bind fun t217 => (if (t216 == t217) = true then ((names_Bucket.f a0 a2).bind fun t218 => ((escritoireref04_Bucket.f k a0 a2).bind fun t219 => (some (t218 == t219)))) else (some false)))) else (some false)) else (some false)) else (some false)))) else (some false))
theorem escritoirelaw04_NamesParents.mono : ∀ a0 a1 a2 k, LeO (escritoirelaw04_NamesParents.f k a0 a1 a2) (escritoirelaw04_NamesParents.f (k + 1) a0 a1 a2) := by
  intro a0 a1 a2 k
  unfold escritoirelaw04_NamesParents.f
  repeat' first
      | (with_reducible exact escritoirelaw04_lives.mono _)
      | (with_reducible exact escritoireref04_Bucket.mono _ _ _)
      | (with_reducible exact escritoireref04_Parent.mono _ _)
      | (with_reducible exact escritoireref04_Under.mono _ _ _)
      | (with_reducible exact names_Parent.mono _ _)
      | (with_reducible exact names_Under.mono _ _ _)
      | (with_reducible exact LeO.refl _)
      | (with_reducible exact LeO.none _)
      | (with_reducible refine LeO.ite ?_ ?_)
      | (with_reducible refine LeO.bind ?_ (fun _ => ?_))
      | exact escritoirelaw04_lives.mono _
      | exact escritoireref04_Bucket.mono _ _ _
      | exact escritoireref04_Parent.mono _ _
      | exact escritoireref04_Under.mono _ _ _
      | exact names_Parent.mono _ _
      | exact names_Under.mono _ _ _
      | exact LeO.none _
      | refine LeO.ite ?_ ?_
      | refine LeO.bind ?_ (fun _ => ?_)
set_option maxHeartbeats 8000000 in
set_option maxRecDepth 100000 in
theorem escritoirelaw04_NamesParents.calls (k : Nat) (a0 : ByteArray) (a1 : ByteArray) (a2 : Int) (r : Bool) (w : World) (h : escritoirelaw04_NamesParents.f k a0 a1 a2 = some r) :
    Calls Tryd.prog 5 #[.string a0, .string a1, .int .i64 a2] w fun e w' => e = .returned (.bool r) ∧ Below w.heap.size w w' := by
  have HB := Aside0.mk (Below.refl w.heap.size w)
  have H : ((escritoirelaw04_lives.f k).bind fun t209 => (if t209 = true then ((names_Parent.f k a0).bind fun bt210 => ((escritoireref04_Parent.f k a0).bind fun bt213 => (if bt210.1.toList = bt213.1.toList then (if bt210.2.1.toList = bt213.2.1.toList then (if bt210.2.2 = bt213.2.2 then ((names_Under.f k a0 a1).bind fun t216 => ((escritoireref04_Under.f k a0 a1).bind fun t217 => (if (t216 == t217) = true then ((names_Bucket.f a0 a2).bind fun t218 => ((escritoireref04_Bucket.f k a0 a2).bind fun t219 => (some (t218 == t219)))) else (some false)))) else (some false)) else (some false)) else (some false)))) else (some false))) = some r := h
  clear h
  replace H := Option.bind_eq_some_iff.mp H
  obtain ⟨t209, A40, H⟩ := H
  replace H : (if t209 = true then ((names_Parent.f k a0).bind fun bt210 => ((escritoireref04_Parent.f k a0).bind fun bt213 => (if bt210.1.toList = bt213.1.toList then (if bt210.2.1.toList = bt213.2.1.toList then (if bt210.2.2 = bt213.2.2 then ((names_Under.f k a0 a1).bind fun t216 => ((escritoireref04_Under.f k a0 a1).bind fun t217 => (if (t216 == t217) = true then ((names_Bucket.f a0 a2).bind fun t218 => ((escritoireref04_Bucket.f k a0 a2).bind fun t219 => (some (t218 == t219)))) else (some false)))) else (some false)) else (some false)) else (some false)))) else (some false)) = some r := H
  have A4 := Aside0.mk A40
  clear A40
  by_cases c5 : t209 = true
  · subst c5
    have H1 : ((names_Parent.f k a0).bind fun bt210 => ((escritoireref04_Parent.f k a0).bind fun bt213 => (if bt210.1.toList = bt213.1.toList then (if bt210.2.1.toList = bt213.2.1.toList then (if bt210.2.2 = bt213.2.2 then ((names_Under.f k a0 a1).bind fun t216 => ((escritoireref04_Under.f k a0 a1).bind fun t217 => (if (t216 == t217) = true then ((names_Bucket.f a0 a2).bind fun t218 => ((escritoireref04_Bucket.f k a0 a2).bind fun t219 => (some (t218 == t219)))) else (some false)))) else (some false)) else (some false)) else (some false)))) = some r := by rw [if_pos rfl] at H; exact H
    clear H
    have H := H1
    clear H1
    replace H := Option.bind_eq_some_iff.mp H
    obtain ⟨⟨t210, t211, t212⟩, A60, H⟩ := H
    replace H : ((escritoireref04_Parent.f k a0).bind fun bt213 => (if t210.toList = bt213.1.toList then (if t211.toList = bt213.2.1.toList then (if t212 = bt213.2.2 then ((names_Under.f k a0 a1).bind fun t216 => ((escritoireref04_Under.f k a0 a1).bind fun t217 => (if (t216 == t217) = true then ((names_Bucket.f a0 a2).bind fun t218 => ((escritoireref04_Bucket.f k a0 a2).bind fun t219 => (some (t218 == t219)))) else (some false)))) else (some false)) else (some false)) else (some false))) = some r := H
    have A6 := Aside0.mk A60
    clear A60
    replace H := Option.bind_eq_some_iff.mp H
    obtain ⟨⟨t213, t214, t215⟩, A70, H⟩ := H
    replace H : (if t210.toList = t213.toList then (if t211.toList = t214.toList then (if t212 = t215 then ((names_Under.f k a0 a1).bind fun t216 => ((escritoireref04_Under.f k a0 a1).bind fun t217 => (if (t216 == t217) = true then ((names_Bucket.f a0 a2).bind fun t218 => ((escritoireref04_Bucket.f k a0 a2).bind fun t219 => (some (t218 == t219)))) else (some false)))) else (some false)) else (some false)) else (some false)) = some r := H
    have A7 := Aside0.mk A70
    clear A70
    by_cases c8 : t210.toList = t213.toList
    · rw [if_pos c8] at H
      have c8b0 : (t210.toList == t213.toList) = true := beq_iff_eq.mpr c8
      have c8b1 : (t210.toList != t213.toList) = false := bne_eq_false_iff_eq.mpr c8
      clear c8
      by_cases c9 : t211.toList = t214.toList
      · rw [if_pos c9] at H
        have c9b0 : (t211.toList == t214.toList) = true := beq_iff_eq.mpr c9
        have c9b1 : (t211.toList != t214.toList) = false := bne_eq_false_iff_eq.mpr c9
        clear c9
        by_cases c10 : t212 = t215
        · rw [if_pos c10] at H
          have c10b0 : (t212 == t215) = true := beq_iff_eq.mpr c10
          have c10b1 : (t212 != t215) = false := bne_eq_false_iff_eq.mpr c10
          clear c10
          replace H := Option.bind_eq_some_iff.mp H
          obtain ⟨t216, A110, H⟩ := H
          replace H : ((escritoireref04_Under.f k a0 a1).bind fun t217 => (if (t216 == t217) = true then ((names_Bucket.f a0 a2).bind fun t218 => ((escritoireref04_Bucket.f k a0 a2).bind fun t219 => (some (t218 == t219)))) else (some false))) = some r := H
          have A11 := Aside0.mk A110
          clear A110
          replace H := Option.bind_eq_some_iff.mp H
          obtain ⟨t217, A120, H⟩ := H
          replace H : (if (t216 == t217) = true then ((names_Bucket.f a0 a2).bind fun t218 => ((escritoireref04_Bucket.f k a0 a2).bind fun t219 => (some (t218 == t219)))) else (some false)) = some r := H
          have A12 := Aside0.mk A120
          clear A120
          by_cases c13 : (t216 == t217) = true
          · rw [if_pos c13] at H
            have c13b0 : (t216 == t217) = true := c13
            (try (have c13b1 : decide (t216 = t217) = true := by simpa using c13))
            (try (have c13b2 : (t216 == t217) = true := by simpa using c13))
            clear c13
            replace H := Option.bind_eq_some_iff.mp H
            obtain ⟨t218, A140, H⟩ := H
            replace H : ((escritoireref04_Bucket.f k a0 a2).bind fun t219 => (some (t218 == t219))) = some r := H
            have A14 := Aside0.mk A140
            clear A140
            replace H := Option.bind_eq_some_iff.mp H
            obtain ⟨t219, A150, H⟩ := H
            replace H : (some (t218 == t219)) = some r := H
            have A15 := Aside0.mk A150
            clear A150
            obtain rfl := Option.some.inj H
            go_enter Tryd.func5, Tryd.ntmps5
            go_wp2_with (first | ((with_reducible refine gate_callee (f := 8) rfl ?_); refine goesL_ (some 13) rfl rfl Tryd.func8 (by kernel_rfl) rfl #[] rfl (by (try simp only [List.map_toArray, List.map_cons, List.map_nil]); first | done | rfl | (simp only [List.length_drop, List.length_take]; rfl)) ?_; (with_reducible refine (escritoirelaw04_lives.calls k  true _ A4.out).mono ?_); rintro e w16 ⟨rfl, hb⟩; refine ⟨_, rfl, ?_⟩; have n0_ := Aside0.mk (below_step (by repeat (first | (with_reducible first | exact HB.out | apply below_alloc | apply pw_below_drewN | apply below_drew1) | exact HB.out)) hb); clear HB; have HB := n0_; clear n0_; (try clear hb); (try clear hb2); (try clear hk); (try clear hi)) | ((with_reducible refine gate_callee (f := 16) rfl ?_); refine goesL_ (some 17) rfl rfl Tryd.func16 (by kernel_rfl) rfl #[.string a0] rfl (by (try simp only [List.map_toArray, List.map_cons, List.map_nil]); first | done | rfl | (simp only [List.length_drop, List.length_take]; rfl)) ?_; (with_reducible refine (names_Parent.calls k a0 t210 t211 t212 _ A6.out).mono ?_); rintro e w17 ⟨rfl, hb⟩; refine ⟨_, rfl, ?_⟩; have n0_ := Aside0.mk (below_step (by repeat (first | (with_reducible first | exact HB.out | apply below_alloc | apply pw_below_drewN | apply below_drew1) | exact HB.out)) hb); clear HB; have HB := n0_; clear n0_; (try clear hb); (try clear hb2); (try clear hk); (try clear hi)) | ((with_reducible refine gate_callee (f := 17) rfl ?_); refine goesL_ (some 23) rfl rfl Tryd.func17 (by kernel_rfl) rfl #[.string a0] rfl (by (try simp only [List.map_toArray, List.map_cons, List.map_nil]); first | done | rfl | (simp only [List.length_drop, List.length_take]; rfl)) ?_; (with_reducible refine (escritoireref04_Parent.calls k a0 t213 t214 t215 _ A7.out).mono ?_); rintro e w18 ⟨rfl, hb⟩; refine ⟨_, rfl, ?_⟩; have n0_ := Aside0.mk (below_step (by repeat (first | (with_reducible first | exact HB.out | apply below_alloc | apply pw_below_drewN | apply below_drew1) | exact HB.out)) hb); clear HB; have HB := n0_; clear n0_; (try clear hb); (try clear hb2); (try clear hk); (try clear hi)) | (go_at_call 14; (with_reducible refine (names_Under.calls k a0 a1 t216 _ A11.out).mono ?_); rintro e w19 ⟨rfl, hb⟩; have n0_ := Aside0.mk (below_step (by repeat (first | (with_reducible first | exact HB.out | apply below_alloc | apply pw_below_drewN | apply below_drew1) | exact HB.out)) hb); clear HB; have HB := n0_; clear n0_; (try clear hb); (try clear hb2); (try clear hk); (try clear hi)) | (go_at_call 18; (with_reducible refine (escritoireref04_Under.calls k a0 a1 t217 _ A12.out).mono ?_); rintro e w20 ⟨rfl, hb⟩; have n0_ := Aside0.mk (below_step (by repeat (first | (with_reducible first | exact HB.out | apply below_alloc | apply pw_below_drewN | apply below_drew1) | exact HB.out)) hb); clear HB; have HB := n0_; clear n0_; (try clear hb); (try clear hb2); (try clear hk); (try clear hi)) | (go_at_call 19; (with_reducible refine (names_Bucket.calls a0 a2 t218 _ A14.out).mono ?_); rintro e w21 ⟨rfl, hb⟩; have n0_ := Aside0.mk (below_step (by repeat (first | (with_reducible first | exact HB.out | apply below_alloc | apply pw_below_drewN | apply below_drew1) | exact HB.out)) hb); clear HB; have HB := n0_; clear n0_; (try clear hb); (try clear hb2); (try clear hk); (try clear hi)) | (go_at_call 20; (with_reducible refine (escritoireref04_Bucket.calls k a0 a2 t219 _ A15.out).mono ?_); rintro e w' ⟨rfl, ⟨nd, rfl⟩⟩))
            go_ret
            exact ⟨by first | rfl | (simp [errW_none, errW_some] <;> rfl) | (simp [*, errW_none, errW_some] <;> rfl), by repeat (first | (with_reducible first | exact HB.out | apply below_alloc | apply pw_below_drewN | apply below_drew1) | exact HB.out)⟩
          · rw [if_neg c13] at H
            have c13b0 : (t216 == t217) = false := by simpa using c13
            (try (have c13b1 : decide (t216 = t217) = false := by simpa using c13))
            (try (have c13b2 : (t216 == t217) = false := by simpa using c13))
            (try (have c13b3 : ¬ (t216 = t217) := by simpa using c13))
            clear c13
            obtain rfl := Option.some.inj H
            go_enter Tryd.func5, Tryd.ntmps5
            go_wp2_with (first | ((with_reducible refine gate_callee (f := 8) rfl ?_); refine goesL_ (some 13) rfl rfl Tryd.func8 (by kernel_rfl) rfl #[] rfl (by (try simp only [List.map_toArray, List.map_cons, List.map_nil]); first | done | rfl | (simp only [List.length_drop, List.length_take]; rfl)) ?_; (with_reducible refine (escritoirelaw04_lives.calls k  true _ A4.out).mono ?_); rintro e w22 ⟨rfl, hb⟩; refine ⟨_, rfl, ?_⟩; have n0_ := Aside0.mk (below_step (by repeat (first | (with_reducible first | exact HB.out | apply below_alloc | apply pw_below_drewN | apply below_drew1) | exact HB.out)) hb); clear HB; have HB := n0_; clear n0_; (try clear hb); (try clear hb2); (try clear hk); (try clear hi)) | ((with_reducible refine gate_callee (f := 16) rfl ?_); refine goesL_ (some 17) rfl rfl Tryd.func16 (by kernel_rfl) rfl #[.string a0] rfl (by (try simp only [List.map_toArray, List.map_cons, List.map_nil]); first | done | rfl | (simp only [List.length_drop, List.length_take]; rfl)) ?_; (with_reducible refine (names_Parent.calls k a0 t210 t211 t212 _ A6.out).mono ?_); rintro e w23 ⟨rfl, hb⟩; refine ⟨_, rfl, ?_⟩; have n0_ := Aside0.mk (below_step (by repeat (first | (with_reducible first | exact HB.out | apply below_alloc | apply pw_below_drewN | apply below_drew1) | exact HB.out)) hb); clear HB; have HB := n0_; clear n0_; (try clear hb); (try clear hb2); (try clear hk); (try clear hi)) | ((with_reducible refine gate_callee (f := 17) rfl ?_); refine goesL_ (some 23) rfl rfl Tryd.func17 (by kernel_rfl) rfl #[.string a0] rfl (by (try simp only [List.map_toArray, List.map_cons, List.map_nil]); first | done | rfl | (simp only [List.length_drop, List.length_take]; rfl)) ?_; (with_reducible refine (escritoireref04_Parent.calls k a0 t213 t214 t215 _ A7.out).mono ?_); rintro e w24 ⟨rfl, hb⟩; refine ⟨_, rfl, ?_⟩; have n0_ := Aside0.mk (below_step (by repeat (first | (with_reducible first | exact HB.out | apply below_alloc | apply pw_below_drewN | apply below_drew1) | exact HB.out)) hb); clear HB; have HB := n0_; clear n0_; (try clear hb); (try clear hb2); (try clear hk); (try clear hi)) | (go_at_call 14; (with_reducible refine (names_Under.calls k a0 a1 t216 _ A11.out).mono ?_); rintro e w25 ⟨rfl, hb⟩; have n0_ := Aside0.mk (below_step (by repeat (first | (with_reducible first | exact HB.out | apply below_alloc | apply pw_below_drewN | apply below_drew1) | exact HB.out)) hb); clear HB; have HB := n0_; clear n0_; (try clear hb); (try clear hb2); (try clear hk); (try clear hi)) | (go_at_call 18; (with_reducible refine (escritoireref04_Under.calls k a0 a1 t217 _ A12.out).mono ?_); rintro e w26 ⟨rfl, hb⟩; have n0_ := Aside0.mk (below_step (by repeat (first | (with_reducible first | exact HB.out | apply below_alloc | apply pw_below_drewN | apply below_drew1) | exact HB.out)) hb); clear HB; have HB := n0_; clear n0_; (try clear hb); (try clear hb2); (try clear hk); (try clear hi)))
            go_ret
            exact ⟨by first | rfl | (simp [errW_none, errW_some] <;> rfl) | (simp [*, errW_none, errW_some] <;> rfl), by repeat (first | (with_reducible first | exact HB.out | apply below_alloc | apply pw_below_drewN | apply below_drew1) | exact HB.out)⟩
        · rw [if_neg c10] at H
          have c10b0 : (t212 == t215) = false := beq_eq_false_iff_ne.mpr c10
          have c10b1 : (t212 != t215) = true := bne_iff_ne.mpr c10
          obtain rfl := Option.some.inj H
          go_enter Tryd.func5, Tryd.ntmps5
          go_wp2_with (first | ((with_reducible refine gate_callee (f := 8) rfl ?_); refine goesL_ (some 13) rfl rfl Tryd.func8 (by kernel_rfl) rfl #[] rfl (by (try simp only [List.map_toArray, List.map_cons, List.map_nil]); first | done | rfl | (simp only [List.length_drop, List.length_take]; rfl)) ?_; (with_reducible refine (escritoirelaw04_lives.calls k  true _ A4.out).mono ?_); rintro e w27 ⟨rfl, hb⟩; refine ⟨_, rfl, ?_⟩; have n0_ := Aside0.mk (below_step (by repeat (first | (with_reducible first | exact HB.out | apply below_alloc | apply pw_below_drewN | apply below_drew1) | exact HB.out)) hb); clear HB; have HB := n0_; clear n0_; (try clear hb); (try clear hb2); (try clear hk); (try clear hi)) | ((with_reducible refine gate_callee (f := 16) rfl ?_); refine goesL_ (some 17) rfl rfl Tryd.func16 (by kernel_rfl) rfl #[.string a0] rfl (by (try simp only [List.map_toArray, List.map_cons, List.map_nil]); first | done | rfl | (simp only [List.length_drop, List.length_take]; rfl)) ?_; (with_reducible refine (names_Parent.calls k a0 t210 t211 t212 _ A6.out).mono ?_); rintro e w28 ⟨rfl, hb⟩; refine ⟨_, rfl, ?_⟩; have n0_ := Aside0.mk (below_step (by repeat (first | (with_reducible first | exact HB.out | apply below_alloc | apply pw_below_drewN | apply below_drew1) | exact HB.out)) hb); clear HB; have HB := n0_; clear n0_; (try clear hb); (try clear hb2); (try clear hk); (try clear hi)) | ((with_reducible refine gate_callee (f := 17) rfl ?_); refine goesL_ (some 23) rfl rfl Tryd.func17 (by kernel_rfl) rfl #[.string a0] rfl (by (try simp only [List.map_toArray, List.map_cons, List.map_nil]); first | done | rfl | (simp only [List.length_drop, List.length_take]; rfl)) ?_; (with_reducible refine (escritoireref04_Parent.calls k a0 t213 t214 t215 _ A7.out).mono ?_); rintro e w29 ⟨rfl, hb⟩; refine ⟨_, rfl, ?_⟩; have n0_ := Aside0.mk (below_step (by repeat (first | (with_reducible first | exact HB.out | apply below_alloc | apply pw_below_drewN | apply below_drew1) | exact HB.out)) hb); clear HB; have HB := n0_; clear n0_; (try clear hb); (try clear hb2); (try clear hk); (try clear hi)))
          go_ret
          exact ⟨by first | rfl | (simp [errW_none, errW_some] <;> rfl) | (simp [*, errW_none, errW_some] <;> rfl), by repeat (first | (with_reducible first | exact HB.out | apply below_alloc | apply pw_below_drewN | apply below_drew1) | exact HB.out)⟩
      · rw [if_neg c9] at H
        have c9b0 : (t211.toList == t214.toList) = false := beq_eq_false_iff_ne.mpr c9
        have c9b1 : (t211.toList != t214.toList) = true := bne_iff_ne.mpr c9
        obtain rfl := Option.some.inj H
        go_enter Tryd.func5, Tryd.ntmps5
        go_wp2_with (first | ((with_reducible refine gate_callee (f := 8) rfl ?_); refine goesL_ (some 13) rfl rfl Tryd.func8 (by kernel_rfl) rfl #[] rfl (by (try simp only [List.map_toArray, List.map_cons, List.map_nil]); first | done | rfl | (simp only [List.length_drop, List.length_take]; rfl)) ?_; (with_reducible refine (escritoirelaw04_lives.calls k  true _ A4.out).mono ?_); rintro e w30 ⟨rfl, hb⟩; refine ⟨_, rfl, ?_⟩; have n0_ := Aside0.mk (below_step (by repeat (first | (with_reducible first | exact HB.out | apply below_alloc | apply pw_below_drewN | apply below_drew1) | exact HB.out)) hb); clear HB; have HB := n0_; clear n0_; (try clear hb); (try clear hb2); (try clear hk); (try clear hi)) | ((with_reducible refine gate_callee (f := 16) rfl ?_); refine goesL_ (some 17) rfl rfl Tryd.func16 (by kernel_rfl) rfl #[.string a0] rfl (by (try simp only [List.map_toArray, List.map_cons, List.map_nil]); first | done | rfl | (simp only [List.length_drop, List.length_take]; rfl)) ?_; (with_reducible refine (names_Parent.calls k a0 t210 t211 t212 _ A6.out).mono ?_); rintro e w31 ⟨rfl, hb⟩; refine ⟨_, rfl, ?_⟩; have n0_ := Aside0.mk (below_step (by repeat (first | (with_reducible first | exact HB.out | apply below_alloc | apply pw_below_drewN | apply below_drew1) | exact HB.out)) hb); clear HB; have HB := n0_; clear n0_; (try clear hb); (try clear hb2); (try clear hk); (try clear hi)) | ((with_reducible refine gate_callee (f := 17) rfl ?_); refine goesL_ (some 23) rfl rfl Tryd.func17 (by kernel_rfl) rfl #[.string a0] rfl (by (try simp only [List.map_toArray, List.map_cons, List.map_nil]); first | done | rfl | (simp only [List.length_drop, List.length_take]; rfl)) ?_; (with_reducible refine (escritoireref04_Parent.calls k a0 t213 t214 t215 _ A7.out).mono ?_); rintro e w32 ⟨rfl, hb⟩; refine ⟨_, rfl, ?_⟩; have n0_ := Aside0.mk (below_step (by repeat (first | (with_reducible first | exact HB.out | apply below_alloc | apply pw_below_drewN | apply below_drew1) | exact HB.out)) hb); clear HB; have HB := n0_; clear n0_; (try clear hb); (try clear hb2); (try clear hk); (try clear hi)))
        go_ret
        exact ⟨by first | rfl | (simp [errW_none, errW_some] <;> rfl) | (simp [*, errW_none, errW_some] <;> rfl), by repeat (first | (with_reducible first | exact HB.out | apply below_alloc | apply pw_below_drewN | apply below_drew1) | exact HB.out)⟩
    · rw [if_neg c8] at H
      have c8b0 : (t210.toList == t213.toList) = false := beq_eq_false_iff_ne.mpr c8
      have c8b1 : (t210.toList != t213.toList) = true := bne_iff_ne.mpr c8
      obtain rfl := Option.some.inj H
      go_enter Tryd.func5, Tryd.ntmps5
      go_wp2_with (first | ((with_reducible refine gate_callee (f := 8) rfl ?_); refine goesL_ (some 13) rfl rfl Tryd.func8 (by kernel_rfl) rfl #[] rfl (by (try simp only [List.map_toArray, List.map_cons, List.map_nil]); first | done | rfl | (simp only [List.length_drop, List.length_take]; rfl)) ?_; (with_reducible refine (escritoirelaw04_lives.calls k  true _ A4.out).mono ?_); rintro e w33 ⟨rfl, hb⟩; refine ⟨_, rfl, ?_⟩; have n0_ := Aside0.mk (below_step (by repeat (first | (with_reducible first | exact HB.out | apply below_alloc | apply pw_below_drewN | apply below_drew1) | exact HB.out)) hb); clear HB; have HB := n0_; clear n0_; (try clear hb); (try clear hb2); (try clear hk); (try clear hi)) | ((with_reducible refine gate_callee (f := 16) rfl ?_); refine goesL_ (some 17) rfl rfl Tryd.func16 (by kernel_rfl) rfl #[.string a0] rfl (by (try simp only [List.map_toArray, List.map_cons, List.map_nil]); first | done | rfl | (simp only [List.length_drop, List.length_take]; rfl)) ?_; (with_reducible refine (names_Parent.calls k a0 t210 t211 t212 _ A6.out).mono ?_); rintro e w34 ⟨rfl, hb⟩; refine ⟨_, rfl, ?_⟩; have n0_ := Aside0.mk (below_step (by repeat (first | (with_reducible first | exact HB.out | apply below_alloc | apply pw_below_drewN | apply below_drew1) | exact HB.out)) hb); clear HB; have HB := n0_; clear n0_; (try clear hb); (try clear hb2); (try clear hk); (try clear hi)) | ((with_reducible refine gate_callee (f := 17) rfl ?_); refine goesL_ (some 23) rfl rfl Tryd.func17 (by kernel_rfl) rfl #[.string a0] rfl (by (try simp only [List.map_toArray, List.map_cons, List.map_nil]); first | done | rfl | (simp only [List.length_drop, List.length_take]; rfl)) ?_; (with_reducible refine (escritoireref04_Parent.calls k a0 t213 t214 t215 _ A7.out).mono ?_); rintro e w35 ⟨rfl, hb⟩; refine ⟨_, rfl, ?_⟩; have n0_ := Aside0.mk (below_step (by repeat (first | (with_reducible first | exact HB.out | apply below_alloc | apply pw_below_drewN | apply below_drew1) | exact HB.out)) hb); clear HB; have HB := n0_; clear n0_; (try clear hb); (try clear hb2); (try clear hk); (try clear hi)))
      go_ret
      exact ⟨by first | rfl | (simp [errW_none, errW_some] <;> rfl) | (simp [*, errW_none, errW_some] <;> rfl), by repeat (first | (with_reducible first | exact HB.out | apply below_alloc | apply pw_below_drewN | apply below_drew1) | exact HB.out)⟩
  · replace c5 := Bool.eq_false_iff.mpr c5
    subst c5
    have H1 : (some false) = some r := by rw [if_neg (show ¬ (false = true) by decide)] at H; exact H
    clear H
    have H := H1
    clear H1
    obtain rfl := Option.some.inj H
    go_enter Tryd.func5, Tryd.ntmps5
    go_wp2_with (first | ((with_reducible refine gate_callee (f := 8) rfl ?_); refine goesL_ (some 13) rfl rfl Tryd.func8 (by kernel_rfl) rfl #[] rfl (by (try simp only [List.map_toArray, List.map_cons, List.map_nil]); first | done | rfl | (simp only [List.length_drop, List.length_take]; rfl)) ?_; (with_reducible refine (escritoirelaw04_lives.calls k  false _ A4.out).mono ?_); rintro e w36 ⟨rfl, hb⟩; refine ⟨_, rfl, ?_⟩; have n0_ := Aside0.mk (below_step (by repeat (first | (with_reducible first | exact HB.out | apply below_alloc | apply pw_below_drewN | apply below_drew1) | exact HB.out)) hb); clear HB; have HB := n0_; clear n0_; (try clear hb); (try clear hb2); (try clear hk); (try clear hi)))
    go_ret
    exact ⟨by first | rfl | (simp [errW_none, errW_some] <;> rfl) | (simp [*, errW_none, errW_some] <;> rfl), by repeat (first | (with_reducible first | exact HB.out | apply below_alloc | apply pw_below_drewN | apply below_drew1) | exact HB.out)⟩

/-! ### escritoirelaw04_NamesBuckets: function 6 -/
def escritoirelaw04_NamesBuckets.f (k : Nat) (a0 : ByteArray) (a1 : Int) : Option (Bool) := (escritoirelaw04_lives.f k).bind fun t220 => (if t220 = true then ((names_Bucket.f a0 (wrap64 (1 + (wrap64 (Int.tmod (IntKind.u64.wrap (a1)) 1000))))).bind fun t221 => ((names_Bucket.f a0 (wrap64 (2 * (wrap64 (1 + (wrap64 (Int.tmod (IntKind.u64.wrap (a1)) 1000))))))).bind fun t222 => (if t221 ≥ 0 then (if t221 < (wrap64 (1 + (wrap64 (Int.tmod (IntKind.u64.wrap (a1)) 1000)))) then (if (wrap64 (1 + (wrap64 (Int.tmod (IntKind.u64.wrap (a1)) 1000)))) = 0 then (none) else (if (Int.tmod t222 (wrap64 (1 + (wrap64 (Int.tmod (IntKind.u64.wrap (a1)) 1000))))) = t221 then ((names_Bucket.f a0 1).bind fun t223 => (if t223 = 0 then ((names_Bucket.f a0 0).bind fun t224 => (if t224 = 0 then (if a0.size + 0 ≤ 9223372036854775807 then ((names_Bucket.f (a0 ++ (⟨#[]⟩ : ByteArray)) (wrap64 (1 + (wrap64 (Int.tmod (IntKind.u64.wrap (a1)) 1000))))).bind fun t225 => (some (t225 == t221))) else (none)) else (some false))) else (some false))) else (some false))) else (some false)) else (some false)))) else (some false))
theorem escritoirelaw04_NamesBuckets.mono : ∀ a0 a1 k, LeO (escritoirelaw04_NamesBuckets.f k a0 a1) (escritoirelaw04_NamesBuckets.f (k + 1) a0 a1) := by
  intro a0 a1 k
  unfold escritoirelaw04_NamesBuckets.f
  repeat' first
      | (with_reducible exact escritoirelaw04_lives.mono _)
      | (with_reducible exact LeO.refl _)
      | (with_reducible exact LeO.none _)
      | (with_reducible refine LeO.ite ?_ ?_)
      | (with_reducible refine LeO.bind ?_ (fun _ => ?_))
      | exact escritoirelaw04_lives.mono _
      | exact LeO.none _
      | refine LeO.ite ?_ ?_
      | refine LeO.bind ?_ (fun _ => ?_)
set_option maxHeartbeats 8000000 in
set_option maxRecDepth 100000 in
theorem escritoirelaw04_NamesBuckets.calls (k : Nat) (a0 : ByteArray) (a1 : Int) (r : Bool) (w : World) (h : escritoirelaw04_NamesBuckets.f k a0 a1 = some r) :
    Calls Tryd.prog 6 #[.string a0, .int .i64 a1] w fun e w' => e = .returned (.bool r) ∧ Below w.heap.size w w' := by
  have HB := Aside0.mk (Below.refl w.heap.size w)
  have H : ((escritoirelaw04_lives.f k).bind fun t220 => (if t220 = true then ((names_Bucket.f a0 (wrap64 (1 + (wrap64 (Int.tmod (IntKind.u64.wrap (a1)) 1000))))).bind fun t221 => ((names_Bucket.f a0 (wrap64 (2 * (wrap64 (1 + (wrap64 (Int.tmod (IntKind.u64.wrap (a1)) 1000))))))).bind fun t222 => (if t221 ≥ 0 then (if t221 < (wrap64 (1 + (wrap64 (Int.tmod (IntKind.u64.wrap (a1)) 1000)))) then (if (wrap64 (1 + (wrap64 (Int.tmod (IntKind.u64.wrap (a1)) 1000)))) = 0 then (none) else (if (Int.tmod t222 (wrap64 (1 + (wrap64 (Int.tmod (IntKind.u64.wrap (a1)) 1000))))) = t221 then ((names_Bucket.f a0 1).bind fun t223 => (if t223 = 0 then ((names_Bucket.f a0 0).bind fun t224 => (if t224 = 0 then (if a0.size + 0 ≤ 9223372036854775807 then ((names_Bucket.f (a0 ++ (⟨#[]⟩ : ByteArray)) (wrap64 (1 + (wrap64 (Int.tmod (IntKind.u64.wrap (a1)) 1000))))).bind fun t225 => (some (t225 == t221))) else (none)) else (some false))) else (some false))) else (some false))) else (some false)) else (some false)))) else (some false))) = some r := h
  clear h
  replace H := Option.bind_eq_some_iff.mp H
  obtain ⟨t220, A30, H⟩ := H
  replace H : (if t220 = true then ((names_Bucket.f a0 (wrap64 (1 + (wrap64 (Int.tmod (IntKind.u64.wrap (a1)) 1000))))).bind fun t221 => ((names_Bucket.f a0 (wrap64 (2 * (wrap64 (1 + (wrap64 (Int.tmod (IntKind.u64.wrap (a1)) 1000))))))).bind fun t222 => (if t221 ≥ 0 then (if t221 < (wrap64 (1 + (wrap64 (Int.tmod (IntKind.u64.wrap (a1)) 1000)))) then (if (wrap64 (1 + (wrap64 (Int.tmod (IntKind.u64.wrap (a1)) 1000)))) = 0 then (none) else (if (Int.tmod t222 (wrap64 (1 + (wrap64 (Int.tmod (IntKind.u64.wrap (a1)) 1000))))) = t221 then ((names_Bucket.f a0 1).bind fun t223 => (if t223 = 0 then ((names_Bucket.f a0 0).bind fun t224 => (if t224 = 0 then (if a0.size + 0 ≤ 9223372036854775807 then ((names_Bucket.f (a0 ++ (⟨#[]⟩ : ByteArray)) (wrap64 (1 + (wrap64 (Int.tmod (IntKind.u64.wrap (a1)) 1000))))).bind fun t225 => (some (t225 == t221))) else (none)) else (some false))) else (some false))) else (some false))) else (some false)) else (some false)))) else (some false)) = some r := H
  have A3 := Aside0.mk A30
  clear A30
  by_cases c4 : t220 = true
  · subst c4
    have H1 : ((names_Bucket.f a0 (wrap64 (1 + (wrap64 (Int.tmod (IntKind.u64.wrap (a1)) 1000))))).bind fun t221 => ((names_Bucket.f a0 (wrap64 (2 * (wrap64 (1 + (wrap64 (Int.tmod (IntKind.u64.wrap (a1)) 1000))))))).bind fun t222 => (if t221 ≥ 0 then (if t221 < (wrap64 (1 + (wrap64 (Int.tmod (IntKind.u64.wrap (a1)) 1000)))) then (if (wrap64 (1 + (wrap64 (Int.tmod (IntKind.u64.wrap (a1)) 1000)))) = 0 then (none) else (if (Int.tmod t222 (wrap64 (1 + (wrap64 (Int.tmod (IntKind.u64.wrap (a1)) 1000))))) = t221 then ((names_Bucket.f a0 1).bind fun t223 => (if t223 = 0 then ((names_Bucket.f a0 0).bind fun t224 => (if t224 = 0 then (if a0.size + 0 ≤ 9223372036854775807 then ((names_Bucket.f (a0 ++ (⟨#[]⟩ : ByteArray)) (wrap64 (1 + (wrap64 (Int.tmod (IntKind.u64.wrap (a1)) 1000))))).bind fun t225 => (some (t225 == t221))) else (none)) else (some false))) else (some false))) else (some false))) else (some false)) else (some false)))) = some r := by rw [if_pos rfl] at H; exact H
    clear H
    have H := H1
    clear H1
    replace H := Option.bind_eq_some_iff.mp H
    obtain ⟨t221, A50, H⟩ := H
    replace H : ((names_Bucket.f a0 (wrap64 (2 * (wrap64 (1 + (wrap64 (Int.tmod (IntKind.u64.wrap (a1)) 1000))))))).bind fun t222 => (if t221 ≥ 0 then (if t221 < (wrap64 (1 + (wrap64 (Int.tmod (IntKind.u64.wrap (a1)) 1000)))) then (if (wrap64 (1 + (wrap64 (Int.tmod (IntKind.u64.wrap (a1)) 1000)))) = 0 then (none) else (if (Int.tmod t222 (wrap64 (1 + (wrap64 (Int.tmod (IntKind.u64.wrap (a1)) 1000))))) = t221 then ((names_Bucket.f a0 1).bind fun t223 => (if t223 = 0 then ((names_Bucket.f a0 0).bind fun t224 => (if t224 = 0 then (if a0.size + 0 ≤ 9223372036854775807 then ((names_Bucket.f (a0 ++ (⟨#[]⟩ : ByteArray)) (wrap64 (1 + (wrap64 (Int.tmod (IntKind.u64.wrap (a1)) 1000))))).bind fun t225 => (some (t225 == t221))) else (none)) else (some false))) else (some false))) else (some false))) else (some false)) else (some false))) = some r := H
    have A5 := Aside0.mk A50
    clear A50
    replace H := Option.bind_eq_some_iff.mp H
    obtain ⟨t222, A60, H⟩ := H
    replace H : (if t221 ≥ 0 then (if t221 < (wrap64 (1 + (wrap64 (Int.tmod (IntKind.u64.wrap (a1)) 1000)))) then (if (wrap64 (1 + (wrap64 (Int.tmod (IntKind.u64.wrap (a1)) 1000)))) = 0 then (none) else (if (Int.tmod t222 (wrap64 (1 + (wrap64 (Int.tmod (IntKind.u64.wrap (a1)) 1000))))) = t221 then ((names_Bucket.f a0 1).bind fun t223 => (if t223 = 0 then ((names_Bucket.f a0 0).bind fun t224 => (if t224 = 0 then (if a0.size + 0 ≤ 9223372036854775807 then ((names_Bucket.f (a0 ++ (⟨#[]⟩ : ByteArray)) (wrap64 (1 + (wrap64 (Int.tmod (IntKind.u64.wrap (a1)) 1000))))).bind fun t225 => (some (t225 == t221))) else (none)) else (some false))) else (some false))) else (some false))) else (some false)) else (some false)) = some r := H
    have A6 := Aside0.mk A60
    clear A60
    by_cases c7 : t221 ≥ 0
    · rw [if_pos c7] at H
      have c7b0 : decide (0 ≤ t221) = true := decide_eq_true c7
      clear c7
      by_cases c8 : t221 < (wrap64 (1 + (wrap64 (Int.tmod (IntKind.u64.wrap (a1)) 1000))))
      · rw [if_pos c8] at H
        have c8b0 : decide (t221 < (wrap64 (1 + (wrap64 (Int.tmod (IntKind.u64.wrap (a1)) 1000))))) = true := decide_eq_true c8
        clear c8
        by_cases c9 : (wrap64 (1 + (wrap64 (Int.tmod (IntKind.u64.wrap (a1)) 1000)))) = 0
        · rw [if_pos c9] at H
          exact absurd H (by simp)
        · rw [if_neg c9] at H
          have c9b0 : ((wrap64 (1 + (wrap64 (Int.tmod (IntKind.u64.wrap (a1)) 1000)))) == 0) = false := beq_eq_false_iff_ne.mpr c9
          have c9b1 : ((wrap64 (1 + (wrap64 (Int.tmod (IntKind.u64.wrap (a1)) 1000)))) != 0) = true := bne_iff_ne.mpr c9
          by_cases c10 : (Int.tmod t222 (wrap64 (1 + (wrap64 (Int.tmod (IntKind.u64.wrap (a1)) 1000))))) = t221
          · rw [if_pos c10] at H
            have c10b0 : ((Int.tmod t222 (wrap64 (1 + (wrap64 (Int.tmod (IntKind.u64.wrap (a1)) 1000))))) == t221) = true := beq_iff_eq.mpr c10
            have c10b1 : ((Int.tmod t222 (wrap64 (1 + (wrap64 (Int.tmod (IntKind.u64.wrap (a1)) 1000))))) != t221) = false := bne_eq_false_iff_eq.mpr c10
            clear c10
            replace H := Option.bind_eq_some_iff.mp H
            obtain ⟨t223, A110, H⟩ := H
            replace H : (if t223 = 0 then ((names_Bucket.f a0 0).bind fun t224 => (if t224 = 0 then (if a0.size + 0 ≤ 9223372036854775807 then ((names_Bucket.f (a0 ++ (⟨#[]⟩ : ByteArray)) (wrap64 (1 + (wrap64 (Int.tmod (IntKind.u64.wrap (a1)) 1000))))).bind fun t225 => (some (t225 == t221))) else (none)) else (some false))) else (some false)) = some r := H
            have A11 := Aside0.mk A110
            clear A110
            by_cases c12 : t223 = 0
            · rw [if_pos c12] at H
              have c12b0 : (t223 == 0) = true := beq_iff_eq.mpr c12
              have c12b1 : (t223 != 0) = false := bne_eq_false_iff_eq.mpr c12
              clear c12
              replace H := Option.bind_eq_some_iff.mp H
              obtain ⟨t224, A130, H⟩ := H
              replace H : (if t224 = 0 then (if a0.size + 0 ≤ 9223372036854775807 then ((names_Bucket.f (a0 ++ (⟨#[]⟩ : ByteArray)) (wrap64 (1 + (wrap64 (Int.tmod (IntKind.u64.wrap (a1)) 1000))))).bind fun t225 => (some (t225 == t221))) else (none)) else (some false)) = some r := H
              have A13 := Aside0.mk A130
              clear A130
              by_cases c14 : t224 = 0
              · rw [if_pos c14] at H
                have c14b0 : (t224 == 0) = true := beq_iff_eq.mpr c14
                have c14b1 : (t224 != 0) = false := bne_eq_false_iff_eq.mpr c14
                clear c14
                by_cases c15 : a0.size + 0 ≤ 9223372036854775807
                · rw [if_pos c15] at H
                  have c15b0 := eq_true c15
                  have c15b1 : decide (a0.size + 0 ≤ 9223372036854775807) = true := decide_eq_true c15
                  try have c15b2 : (9223372036854775807 < a0.size + 0) = False := eq_false (Nat.not_lt.2 c15)
                  replace H := Option.bind_eq_some_iff.mp H
                  obtain ⟨t225, A160, H⟩ := H
                  replace H : (some (t225 == t221)) = some r := H
                  have A16 := Aside0.mk A160
                  clear A160
                  obtain rfl := Option.some.inj H
                  go_enter Tryd.func6, Tryd.ntmps6
                  go_wp2_with (first | ((with_reducible refine gate_callee (f := 8) rfl ?_); refine goesL_ (some 7) rfl rfl Tryd.func8 (by kernel_rfl) rfl #[] rfl (by (try simp only [List.map_toArray, List.map_cons, List.map_nil]); first | done | rfl | (simp only [List.length_drop, List.length_take]; rfl)) ?_; (with_reducible refine (escritoirelaw04_lives.calls k  true _ A3.out).mono ?_); rintro e w17 ⟨rfl, hb⟩; refine ⟨_, rfl, ?_⟩; have n0_ := Aside0.mk (below_step (by repeat (first | (with_reducible first | exact HB.out | apply below_alloc | apply pw_below_drewN | apply below_drew1) | exact HB.out)) hb); clear HB; have HB := n0_; clear n0_; (try clear hb); (try clear hb2); (try clear hk); (try clear hi)) | ((with_reducible refine gate_callee (f := 19) rfl ?_); refine goesL_ (some 16) rfl rfl Tryd.func19 (by kernel_rfl) rfl #[.string a0, .int .i64 (wrap64 (1 + (wrap64 (Int.tmod (IntKind.u64.wrap (a1)) 1000))))] rfl (by (try simp only [List.map_toArray, List.map_cons, List.map_nil]); first | done | rfl | (simp only [List.length_drop, List.length_take]; rfl)) ?_; (with_reducible refine (names_Bucket.calls a0 (wrap64 (1 + (wrap64 (Int.tmod (IntKind.u64.wrap (a1)) 1000)))) t221 _ A5.out).mono ?_); rintro e w18 ⟨rfl, hb⟩; refine ⟨_, rfl, ?_⟩; have n0_ := Aside0.mk (below_step (by repeat (first | (with_reducible first | exact HB.out | apply below_alloc | apply pw_below_drewN | apply below_drew1) | exact HB.out)) hb); clear HB; have HB := n0_; clear n0_; (try clear hb); (try clear hb2); (try clear hk); (try clear hi)) | ((with_reducible refine gate_callee (f := 19) rfl ?_); refine goesL_ (some 20) rfl rfl Tryd.func19 (by kernel_rfl) rfl #[.string a0, .int .i64 (wrap64 (2 * (wrap64 (1 + (wrap64 (Int.tmod (IntKind.u64.wrap (a1)) 1000))))))] rfl (by (try simp only [List.map_toArray, List.map_cons, List.map_nil]); first | done | rfl | (simp only [List.length_drop, List.length_take]; rfl)) ?_; (with_reducible refine (names_Bucket.calls a0 (wrap64 (2 * (wrap64 (1 + (wrap64 (Int.tmod (IntKind.u64.wrap (a1)) 1000)))))) t222 _ A6.out).mono ?_); rintro e w19 ⟨rfl, hb⟩; refine ⟨_, rfl, ?_⟩; have n0_ := Aside0.mk (below_step (by repeat (first | (with_reducible first | exact HB.out | apply below_alloc | apply pw_below_drewN | apply below_drew1) | exact HB.out)) hb); clear HB; have HB := n0_; clear n0_; (try clear hb); (try clear hb2); (try clear hk); (try clear hi)) | (go_at_call 19; (with_reducible refine (names_Bucket.calls a0 1 t223 _ A11.out).mono ?_); rintro e w20 ⟨rfl, hb⟩; have n0_ := Aside0.mk (below_step (by repeat (first | (with_reducible first | exact HB.out | apply below_alloc | apply pw_below_drewN | apply below_drew1) | exact HB.out)) hb); clear HB; have HB := n0_; clear n0_; (try clear hb); (try clear hb2); (try clear hk); (try clear hi)) | (go_at_call 19; (with_reducible refine (names_Bucket.calls a0 0 t224 _ A13.out).mono ?_); rintro e w21 ⟨rfl, hb⟩; have n0_ := Aside0.mk (below_step (by repeat (first | (with_reducible first | exact HB.out | apply below_alloc | apply pw_below_drewN | apply below_drew1) | exact HB.out)) hb); clear HB; have HB := n0_; clear n0_; (try clear hb); (try clear hb2); (try clear hk); (try clear hi)) | (go_at_call 19; (with_reducible refine (names_Bucket.calls (a0 ++ (⟨#[]⟩ : ByteArray)) (wrap64 (1 + (wrap64 (Int.tmod (IntKind.u64.wrap (a1)) 1000)))) t225 _ A16.out).mono ?_); rintro e w22 ⟨rfl, hb⟩; have n0_ := Aside0.mk (below_step (by repeat (first | (with_reducible first | exact HB.out | apply below_alloc | apply pw_below_drewN | apply below_drew1) | exact HB.out)) hb); clear HB; have HB := n0_; clear n0_; (try clear hb); (try clear hb2); (try clear hk); (try clear hi)))
                  go_ret
                  exact ⟨by first | rfl | (simp [errW_none, errW_some] <;> rfl) | (simp [*, errW_none, errW_some] <;> rfl), by repeat (first | (with_reducible first | exact HB.out | apply below_alloc | apply pw_below_drewN | apply below_drew1) | exact HB.out)⟩
                · rw [if_neg c15] at H
                  exact absurd H (by simp)
              · rw [if_neg c14] at H
                have c14b0 : (t224 == 0) = false := beq_eq_false_iff_ne.mpr c14
                have c14b1 : (t224 != 0) = true := bne_iff_ne.mpr c14
                obtain rfl := Option.some.inj H
                go_enter Tryd.func6, Tryd.ntmps6
                go_wp2_with (first | ((with_reducible refine gate_callee (f := 8) rfl ?_); refine goesL_ (some 7) rfl rfl Tryd.func8 (by kernel_rfl) rfl #[] rfl (by (try simp only [List.map_toArray, List.map_cons, List.map_nil]); first | done | rfl | (simp only [List.length_drop, List.length_take]; rfl)) ?_; (with_reducible refine (escritoirelaw04_lives.calls k  true _ A3.out).mono ?_); rintro e w23 ⟨rfl, hb⟩; refine ⟨_, rfl, ?_⟩; have n0_ := Aside0.mk (below_step (by repeat (first | (with_reducible first | exact HB.out | apply below_alloc | apply pw_below_drewN | apply below_drew1) | exact HB.out)) hb); clear HB; have HB := n0_; clear n0_; (try clear hb); (try clear hb2); (try clear hk); (try clear hi)) | ((with_reducible refine gate_callee (f := 19) rfl ?_); refine goesL_ (some 16) rfl rfl Tryd.func19 (by kernel_rfl) rfl #[.string a0, .int .i64 (wrap64 (1 + (wrap64 (Int.tmod (IntKind.u64.wrap (a1)) 1000))))] rfl (by (try simp only [List.map_toArray, List.map_cons, List.map_nil]); first | done | rfl | (simp only [List.length_drop, List.length_take]; rfl)) ?_; (with_reducible refine (names_Bucket.calls a0 (wrap64 (1 + (wrap64 (Int.tmod (IntKind.u64.wrap (a1)) 1000)))) t221 _ A5.out).mono ?_); rintro e w24 ⟨rfl, hb⟩; refine ⟨_, rfl, ?_⟩; have n0_ := Aside0.mk (below_step (by repeat (first | (with_reducible first | exact HB.out | apply below_alloc | apply pw_below_drewN | apply below_drew1) | exact HB.out)) hb); clear HB; have HB := n0_; clear n0_; (try clear hb); (try clear hb2); (try clear hk); (try clear hi)) | ((with_reducible refine gate_callee (f := 19) rfl ?_); refine goesL_ (some 20) rfl rfl Tryd.func19 (by kernel_rfl) rfl #[.string a0, .int .i64 (wrap64 (2 * (wrap64 (1 + (wrap64 (Int.tmod (IntKind.u64.wrap (a1)) 1000))))))] rfl (by (try simp only [List.map_toArray, List.map_cons, List.map_nil]); first | done | rfl | (simp only [List.length_drop, List.length_take]; rfl)) ?_; (with_reducible refine (names_Bucket.calls a0 (wrap64 (2 * (wrap64 (1 + (wrap64 (Int.tmod (IntKind.u64.wrap (a1)) 1000)))))) t222 _ A6.out).mono ?_); rintro e w25 ⟨rfl, hb⟩; refine ⟨_, rfl, ?_⟩; have n0_ := Aside0.mk (below_step (by repeat (first | (with_reducible first | exact HB.out | apply below_alloc | apply pw_below_drewN | apply below_drew1) | exact HB.out)) hb); clear HB; have HB := n0_; clear n0_; (try clear hb); (try clear hb2); (try clear hk); (try clear hi)) | (go_at_call 19; (with_reducible refine (names_Bucket.calls a0 1 t223 _ A11.out).mono ?_); rintro e w26 ⟨rfl, hb⟩; have n0_ := Aside0.mk (below_step (by repeat (first | (with_reducible first | exact HB.out | apply below_alloc | apply pw_below_drewN | apply below_drew1) | exact HB.out)) hb); clear HB; have HB := n0_; clear n0_; (try clear hb); (try clear hb2); (try clear hk); (try clear hi)) | (go_at_call 19; (with_reducible refine (names_Bucket.calls a0 0 t224 _ A13.out).mono ?_); rintro e w27 ⟨rfl, hb⟩; have n0_ := Aside0.mk (below_step (by repeat (first | (with_reducible first | exact HB.out | apply below_alloc | apply pw_below_drewN | apply below_drew1) | exact HB.out)) hb); clear HB; have HB := n0_; clear n0_; (try clear hb); (try clear hb2); (try clear hk); (try clear hi)))
                go_ret
                exact ⟨by first | rfl | (simp [errW_none, errW_some] <;> rfl) | (simp [*, errW_none, errW_some] <;> rfl), by repeat (first | (with_reducible first | exact HB.out | apply below_alloc | apply pw_below_drewN | apply below_drew1) | exact HB.out)⟩
            · rw [if_neg c12] at H
              have c12b0 : (t223 == 0) = false := beq_eq_false_iff_ne.mpr c12
              have c12b1 : (t223 != 0) = true := bne_iff_ne.mpr c12
              obtain rfl := Option.some.inj H
              go_enter Tryd.func6, Tryd.ntmps6
              go_wp2_with (first | ((with_reducible refine gate_callee (f := 8) rfl ?_); refine goesL_ (some 7) rfl rfl Tryd.func8 (by kernel_rfl) rfl #[] rfl (by (try simp only [List.map_toArray, List.map_cons, List.map_nil]); first | done | rfl | (simp only [List.length_drop, List.length_take]; rfl)) ?_; (with_reducible refine (escritoirelaw04_lives.calls k  true _ A3.out).mono ?_); rintro e w28 ⟨rfl, hb⟩; refine ⟨_, rfl, ?_⟩; have n0_ := Aside0.mk (below_step (by repeat (first | (with_reducible first | exact HB.out | apply below_alloc | apply pw_below_drewN | apply below_drew1) | exact HB.out)) hb); clear HB; have HB := n0_; clear n0_; (try clear hb); (try clear hb2); (try clear hk); (try clear hi)) | ((with_reducible refine gate_callee (f := 19) rfl ?_); refine goesL_ (some 16) rfl rfl Tryd.func19 (by kernel_rfl) rfl #[.string a0, .int .i64 (wrap64 (1 + (wrap64 (Int.tmod (IntKind.u64.wrap (a1)) 1000))))] rfl (by (try simp only [List.map_toArray, List.map_cons, List.map_nil]); first | done | rfl | (simp only [List.length_drop, List.length_take]; rfl)) ?_; (with_reducible refine (names_Bucket.calls a0 (wrap64 (1 + (wrap64 (Int.tmod (IntKind.u64.wrap (a1)) 1000)))) t221 _ A5.out).mono ?_); rintro e w29 ⟨rfl, hb⟩; refine ⟨_, rfl, ?_⟩; have n0_ := Aside0.mk (below_step (by repeat (first | (with_reducible first | exact HB.out | apply below_alloc | apply pw_below_drewN | apply below_drew1) | exact HB.out)) hb); clear HB; have HB := n0_; clear n0_; (try clear hb); (try clear hb2); (try clear hk); (try clear hi)) | ((with_reducible refine gate_callee (f := 19) rfl ?_); refine goesL_ (some 20) rfl rfl Tryd.func19 (by kernel_rfl) rfl #[.string a0, .int .i64 (wrap64 (2 * (wrap64 (1 + (wrap64 (Int.tmod (IntKind.u64.wrap (a1)) 1000))))))] rfl (by (try simp only [List.map_toArray, List.map_cons, List.map_nil]); first | done | rfl | (simp only [List.length_drop, List.length_take]; rfl)) ?_; (with_reducible refine (names_Bucket.calls a0 (wrap64 (2 * (wrap64 (1 + (wrap64 (Int.tmod (IntKind.u64.wrap (a1)) 1000)))))) t222 _ A6.out).mono ?_); rintro e w30 ⟨rfl, hb⟩; refine ⟨_, rfl, ?_⟩; have n0_ := Aside0.mk (below_step (by repeat (first | (with_reducible first | exact HB.out | apply below_alloc | apply pw_below_drewN | apply below_drew1) | exact HB.out)) hb); clear HB; have HB := n0_; clear n0_; (try clear hb); (try clear hb2); (try clear hk); (try clear hi)) | (go_at_call 19; (with_reducible refine (names_Bucket.calls a0 1 t223 _ A11.out).mono ?_); rintro e w31 ⟨rfl, hb⟩; have n0_ := Aside0.mk (below_step (by repeat (first | (with_reducible first | exact HB.out | apply below_alloc | apply pw_below_drewN | apply below_drew1) | exact HB.out)) hb); clear HB; have HB := n0_; clear n0_; (try clear hb); (try clear hb2); (try clear hk); (try clear hi)))
              go_ret
              exact ⟨by first | rfl | (simp [errW_none, errW_some] <;> rfl) | (simp [*, errW_none, errW_some] <;> rfl), by repeat (first | (with_reducible first | exact HB.out | apply below_alloc | apply pw_below_drewN | apply below_drew1) | exact HB.out)⟩
          · rw [if_neg c10] at H
            have c10b0 : ((Int.tmod t222 (wrap64 (1 + (wrap64 (Int.tmod (IntKind.u64.wrap (a1)) 1000))))) == t221) = false := beq_eq_false_iff_ne.mpr c10
            have c10b1 : ((Int.tmod t222 (wrap64 (1 + (wrap64 (Int.tmod (IntKind.u64.wrap (a1)) 1000))))) != t221) = true := bne_iff_ne.mpr c10
            obtain rfl := Option.some.inj H
            go_enter Tryd.func6, Tryd.ntmps6
            go_wp2_with (first | ((with_reducible refine gate_callee (f := 8) rfl ?_); refine goesL_ (some 7) rfl rfl Tryd.func8 (by kernel_rfl) rfl #[] rfl (by (try simp only [List.map_toArray, List.map_cons, List.map_nil]); first | done | rfl | (simp only [List.length_drop, List.length_take]; rfl)) ?_; (with_reducible refine (escritoirelaw04_lives.calls k  true _ A3.out).mono ?_); rintro e w32 ⟨rfl, hb⟩; refine ⟨_, rfl, ?_⟩; have n0_ := Aside0.mk (below_step (by repeat (first | (with_reducible first | exact HB.out | apply below_alloc | apply pw_below_drewN | apply below_drew1) | exact HB.out)) hb); clear HB; have HB := n0_; clear n0_; (try clear hb); (try clear hb2); (try clear hk); (try clear hi)) | ((with_reducible refine gate_callee (f := 19) rfl ?_); refine goesL_ (some 16) rfl rfl Tryd.func19 (by kernel_rfl) rfl #[.string a0, .int .i64 (wrap64 (1 + (wrap64 (Int.tmod (IntKind.u64.wrap (a1)) 1000))))] rfl (by (try simp only [List.map_toArray, List.map_cons, List.map_nil]); first | done | rfl | (simp only [List.length_drop, List.length_take]; rfl)) ?_; (with_reducible refine (names_Bucket.calls a0 (wrap64 (1 + (wrap64 (Int.tmod (IntKind.u64.wrap (a1)) 1000)))) t221 _ A5.out).mono ?_); rintro e w33 ⟨rfl, hb⟩; refine ⟨_, rfl, ?_⟩; have n0_ := Aside0.mk (below_step (by repeat (first | (with_reducible first | exact HB.out | apply below_alloc | apply pw_below_drewN | apply below_drew1) | exact HB.out)) hb); clear HB; have HB := n0_; clear n0_; (try clear hb); (try clear hb2); (try clear hk); (try clear hi)) | ((with_reducible refine gate_callee (f := 19) rfl ?_); refine goesL_ (some 20) rfl rfl Tryd.func19 (by kernel_rfl) rfl #[.string a0, .int .i64 (wrap64 (2 * (wrap64 (1 + (wrap64 (Int.tmod (IntKind.u64.wrap (a1)) 1000))))))] rfl (by (try simp only [List.map_toArray, List.map_cons, List.map_nil]); first | done | rfl | (simp only [List.length_drop, List.length_take]; rfl)) ?_; (with_reducible refine (names_Bucket.calls a0 (wrap64 (2 * (wrap64 (1 + (wrap64 (Int.tmod (IntKind.u64.wrap (a1)) 1000)))))) t222 _ A6.out).mono ?_); rintro e w34 ⟨rfl, hb⟩; refine ⟨_, rfl, ?_⟩; have n0_ := Aside0.mk (below_step (by repeat (first | (with_reducible first | exact HB.out | apply below_alloc | apply pw_below_drewN | apply below_drew1) | exact HB.out)) hb); clear HB; have HB := n0_; clear n0_; (try clear hb); (try clear hb2); (try clear hk); (try clear hi)))
            go_ret
            exact ⟨by first | rfl | (simp [errW_none, errW_some] <;> rfl) | (simp [*, errW_none, errW_some] <;> rfl), by repeat (first | (with_reducible first | exact HB.out | apply below_alloc | apply pw_below_drewN | apply below_drew1) | exact HB.out)⟩
      · rw [if_neg c8] at H
        have c8b0 : decide (t221 < (wrap64 (1 + (wrap64 (Int.tmod (IntKind.u64.wrap (a1)) 1000))))) = false := decide_eq_false c8
        clear c8
        obtain rfl := Option.some.inj H
        go_enter Tryd.func6, Tryd.ntmps6
        go_wp2_with (first | ((with_reducible refine gate_callee (f := 8) rfl ?_); refine goesL_ (some 7) rfl rfl Tryd.func8 (by kernel_rfl) rfl #[] rfl (by (try simp only [List.map_toArray, List.map_cons, List.map_nil]); first | done | rfl | (simp only [List.length_drop, List.length_take]; rfl)) ?_; (with_reducible refine (escritoirelaw04_lives.calls k  true _ A3.out).mono ?_); rintro e w35 ⟨rfl, hb⟩; refine ⟨_, rfl, ?_⟩; have n0_ := Aside0.mk (below_step (by repeat (first | (with_reducible first | exact HB.out | apply below_alloc | apply pw_below_drewN | apply below_drew1) | exact HB.out)) hb); clear HB; have HB := n0_; clear n0_; (try clear hb); (try clear hb2); (try clear hk); (try clear hi)) | ((with_reducible refine gate_callee (f := 19) rfl ?_); refine goesL_ (some 16) rfl rfl Tryd.func19 (by kernel_rfl) rfl #[.string a0, .int .i64 (wrap64 (1 + (wrap64 (Int.tmod (IntKind.u64.wrap (a1)) 1000))))] rfl (by (try simp only [List.map_toArray, List.map_cons, List.map_nil]); first | done | rfl | (simp only [List.length_drop, List.length_take]; rfl)) ?_; (with_reducible refine (names_Bucket.calls a0 (wrap64 (1 + (wrap64 (Int.tmod (IntKind.u64.wrap (a1)) 1000)))) t221 _ A5.out).mono ?_); rintro e w36 ⟨rfl, hb⟩; refine ⟨_, rfl, ?_⟩; have n0_ := Aside0.mk (below_step (by repeat (first | (with_reducible first | exact HB.out | apply below_alloc | apply pw_below_drewN | apply below_drew1) | exact HB.out)) hb); clear HB; have HB := n0_; clear n0_; (try clear hb); (try clear hb2); (try clear hk); (try clear hi)) | ((with_reducible refine gate_callee (f := 19) rfl ?_); refine goesL_ (some 20) rfl rfl Tryd.func19 (by kernel_rfl) rfl #[.string a0, .int .i64 (wrap64 (2 * (wrap64 (1 + (wrap64 (Int.tmod (IntKind.u64.wrap (a1)) 1000))))))] rfl (by (try simp only [List.map_toArray, List.map_cons, List.map_nil]); first | done | rfl | (simp only [List.length_drop, List.length_take]; rfl)) ?_; (with_reducible refine (names_Bucket.calls a0 (wrap64 (2 * (wrap64 (1 + (wrap64 (Int.tmod (IntKind.u64.wrap (a1)) 1000)))))) t222 _ A6.out).mono ?_); rintro e w37 ⟨rfl, hb⟩; refine ⟨_, rfl, ?_⟩; have n0_ := Aside0.mk (below_step (by repeat (first | (with_reducible first | exact HB.out | apply below_alloc | apply pw_below_drewN | apply below_drew1) | exact HB.out)) hb); clear HB; have HB := n0_; clear n0_; (try clear hb); (try clear hb2); (try clear hk); (try clear hi)))
        go_ret
        exact ⟨by first | rfl | (simp [errW_none, errW_some] <;> rfl) | (simp [*, errW_none, errW_some] <;> rfl), by repeat (first | (with_reducible first | exact HB.out | apply below_alloc | apply pw_below_drewN | apply below_drew1) | exact HB.out)⟩
    · rw [if_neg c7] at H
      have c7b0 : decide (0 ≤ t221) = false := decide_eq_false c7
      clear c7
      obtain rfl := Option.some.inj H
      go_enter Tryd.func6, Tryd.ntmps6
      go_wp2_with (first | ((with_reducible refine gate_callee (f := 8) rfl ?_); refine goesL_ (some 7) rfl rfl Tryd.func8 (by kernel_rfl) rfl #[] rfl (by (try simp only [List.map_toArray, List.map_cons, List.map_nil]); first | done | rfl | (simp only [List.length_drop, List.length_take]; rfl)) ?_; (with_reducible refine (escritoirelaw04_lives.calls k  true _ A3.out).mono ?_); rintro e w38 ⟨rfl, hb⟩; refine ⟨_, rfl, ?_⟩; have n0_ := Aside0.mk (below_step (by repeat (first | (with_reducible first | exact HB.out | apply below_alloc | apply pw_below_drewN | apply below_drew1) | exact HB.out)) hb); clear HB; have HB := n0_; clear n0_; (try clear hb); (try clear hb2); (try clear hk); (try clear hi)) | ((with_reducible refine gate_callee (f := 19) rfl ?_); refine goesL_ (some 16) rfl rfl Tryd.func19 (by kernel_rfl) rfl #[.string a0, .int .i64 (wrap64 (1 + (wrap64 (Int.tmod (IntKind.u64.wrap (a1)) 1000))))] rfl (by (try simp only [List.map_toArray, List.map_cons, List.map_nil]); first | done | rfl | (simp only [List.length_drop, List.length_take]; rfl)) ?_; (with_reducible refine (names_Bucket.calls a0 (wrap64 (1 + (wrap64 (Int.tmod (IntKind.u64.wrap (a1)) 1000)))) t221 _ A5.out).mono ?_); rintro e w39 ⟨rfl, hb⟩; refine ⟨_, rfl, ?_⟩; have n0_ := Aside0.mk (below_step (by repeat (first | (with_reducible first | exact HB.out | apply below_alloc | apply pw_below_drewN | apply below_drew1) | exact HB.out)) hb); clear HB; have HB := n0_; clear n0_; (try clear hb); (try clear hb2); (try clear hk); (try clear hi)) | ((with_reducible refine gate_callee (f := 19) rfl ?_); refine goesL_ (some 20) rfl rfl Tryd.func19 (by kernel_rfl) rfl #[.string a0, .int .i64 (wrap64 (2 * (wrap64 (1 + (wrap64 (Int.tmod (IntKind.u64.wrap (a1)) 1000))))))] rfl (by (try simp only [List.map_toArray, List.map_cons, List.map_nil]); first | done | rfl | (simp only [List.length_drop, List.length_take]; rfl)) ?_; (with_reducible refine (names_Bucket.calls a0 (wrap64 (2 * (wrap64 (1 + (wrap64 (Int.tmod (IntKind.u64.wrap (a1)) 1000)))))) t222 _ A6.out).mono ?_); rintro e w40 ⟨rfl, hb⟩; refine ⟨_, rfl, ?_⟩; have n0_ := Aside0.mk (below_step (by repeat (first | (with_reducible first | exact HB.out | apply below_alloc | apply pw_below_drewN | apply below_drew1) | exact HB.out)) hb); clear HB; have HB := n0_; clear n0_; (try clear hb); (try clear hb2); (try clear hk); (try clear hi)))
      go_ret
      exact ⟨by first | rfl | (simp [errW_none, errW_some] <;> rfl) | (simp [*, errW_none, errW_some] <;> rfl), by repeat (first | (with_reducible first | exact HB.out | apply below_alloc | apply pw_below_drewN | apply below_drew1) | exact HB.out)⟩
  · replace c4 := Bool.eq_false_iff.mpr c4
    subst c4
    have H1 : (some false) = some r := by rw [if_neg (show ¬ (false = true) by decide)] at H; exact H
    clear H
    have H := H1
    clear H1
    obtain rfl := Option.some.inj H
    go_enter Tryd.func6, Tryd.ntmps6
    go_wp2_with (first | ((with_reducible refine gate_callee (f := 8) rfl ?_); refine goesL_ (some 7) rfl rfl Tryd.func8 (by kernel_rfl) rfl #[] rfl (by (try simp only [List.map_toArray, List.map_cons, List.map_nil]); first | done | rfl | (simp only [List.length_drop, List.length_take]; rfl)) ?_; (with_reducible refine (escritoirelaw04_lives.calls k  false _ A3.out).mono ?_); rintro e w41 ⟨rfl, hb⟩; refine ⟨_, rfl, ?_⟩; have n0_ := Aside0.mk (below_step (by repeat (first | (with_reducible first | exact HB.out | apply below_alloc | apply pw_below_drewN | apply below_drew1) | exact HB.out)) hb); clear HB; have HB := n0_; clear n0_; (try clear hb); (try clear hb2); (try clear hk); (try clear hi)))
    go_ret
    exact ⟨by first | rfl | (simp [errW_none, errW_some] <;> rfl) | (simp [*, errW_none, errW_some] <;> rfl), by repeat (first | (with_reducible first | exact HB.out | apply below_alloc | apply pw_below_drewN | apply below_drew1) | exact HB.out)⟩

-- NOT PRINTED: function 40 (slices_Grow_string_string)

-- NOT PRINTED: function 32 (slices_Concat_string_string)

end Go.Proofs.YtmbpaienbmbhfaaDoor.Print
