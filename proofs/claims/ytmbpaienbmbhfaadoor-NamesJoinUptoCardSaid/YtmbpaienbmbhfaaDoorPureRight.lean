/- Which names may be, in plain Lean. -/
import Derived.Test.YtmbpaienbmbhfaaDoorPureBase
namespace Go.Proofs.YtmbpaienbmbhfaaDoor.Pure
open Go Go.RowKit Go.Proofs.YtmbpaienbmbhfaaDoor.Str Go.Proofs.YtmbpaienbmbhfaaDoor.Print Go.Proofs.YtmbpaienbmbhfaaDoorW.PrintWords Go.Proofs.YtmbpaienbmbhfaaDoorW.PrintLast Go.Proofs.YtmbpaienbmbhfaaDoorW.PrintMore
set_option linter.unusedVariables false
set_option linter.unusedSimpArgs false
abbrev L (a : ByteArray) : List UInt8 := a.data.toList
theorem L_len (a : ByteArray) : (L a).length = a.size := Array.length_toList
theorem bt_nat (a : ByteArray) (i : Nat) (h : i < (L a).length) : bt a (i : Int) = (((L a)[i]).toNat : Int) := by
  have hi : i < a.size := by rw [← L_len]; exact h
  unfold bt
  rw [dif_pos (by rw [Int.toNat_natCast]; exact hi)]
  rfl
theorem toL (a : ByteArray) : a.toList = L a := ByteArray.toList_eq a
def signB (c : UInt8) : Bool := decide (97 ≤ c.toNat ∧ c.toNat ≤ 122) || decide (48 ≤ c.toNat ∧ c.toNat ≤ 57) || decide (c.toNat = 46) || decide (c.toNat = 45) || decide (c.toNat = 95)
theorem idx_eq (c : UInt8) : decide (Lib.indexByte [46, 45, 95] c ≥ 0) = (decide (c.toNat = 46) || decide (c.toNat = 45) || decide (c.toNat = 95)) := by
  have e : ∀ n : Nat, ∀ d : UInt8, d.toNat = n → (c.toNat = n ↔ d = c) := fun n d h => by rw [← h]; exact ⟨fun x => (UInt8.toNat_inj.1 x).symm, fun x => by rw [x]⟩
  rw [show decide (c.toNat = 46) = decide ((46 : UInt8) = c) from decide_eq_decide.2 (e 46 46 rfl), show decide (c.toNat = 45) = decide ((45 : UInt8) = c) from decide_eq_decide.2 (e 45 45 rfl), show decide (c.toNat = 95) = decide ((95 : UInt8) = c) from decide_eq_decide.2 (e 95 95 rfl)]
  unfold Lib.indexByte Lib.indexByte Lib.indexByte Lib.indexByte
  by_cases h1 : (46 : UInt8) = c
  · simp [h1]
  · by_cases h2 : (45 : UInt8) = c
    · simp [h1, h2]
    · by_cases h3 : (95 : UInt8) = c
      · simp [h1, h2, h3]
      · simp [h1, h2, h3]
theorem sign_eq (k : Nat) (c : UInt8) : names_sign.f (k + 1) (c.toNat : Int) = some (signB c) := by
  have hI : strings_IndexByte.f (⟨#[46, 45, 95]⟩ : ByteArray) (c.toNat : Int) = some (Lib.indexByte [46, 45, 95] c) := by
    unfold strings_IndexByte.f
    rw [Int.toNat_natCast, show c.toNat.toUInt8 = c from UInt8.ofNat_toNat]
  unfold names_sign.f
  by_cases h1 : 97 ≤ (c.toNat : Int)
  · rw [if_pos h1]
    by_cases h2 : (c.toNat : Int) ≤ 122
    · rw [decide_eq_true h2]
      simp only [names_sign.j0]
      rw [if_pos trivial]
      unfold signB
      rw [decide_eq_true (show 97 ≤ c.toNat ∧ c.toNat ≤ 122 by omega)]
      rfl
    · rw [decide_eq_false h2]
      simp only [names_sign.j0]
      rw [if_neg (by decide), if_pos (by omega), if_neg (by omega), hI, Option.bind_some, idx_eq]
      unfold signB
      rw [decide_eq_false (show ¬ (97 ≤ c.toNat ∧ c.toNat ≤ 122) by omega), decide_eq_false (show ¬ (48 ≤ c.toNat ∧ c.toNat ≤ 57) by omega)]
      simp
  · rw [if_neg h1]
    simp only [names_sign.j0]
    rw [if_neg (by decide)]
    unfold signB
    rw [decide_eq_false (show ¬ (97 ≤ c.toNat ∧ c.toNat ≤ 122) by omega)]
    by_cases h3 : 48 ≤ (c.toNat : Int)
    · rw [if_pos h3]
      by_cases h4 : (c.toNat : Int) ≤ 57
      · rw [if_pos h4, decide_eq_true (show 48 ≤ c.toNat ∧ c.toNat ≤ 57 by omega)]
        rfl
      · rw [if_neg h4, hI, Option.bind_some, idx_eq, decide_eq_false (show ¬ (48 ≤ c.toNat ∧ c.toNat ≤ 57) by omega)]
        simp
    · rw [if_neg h3, hI, Option.bind_some, idx_eq, decide_eq_false (show ¬ (48 ≤ c.toNat ∧ c.toNat ≤ 57) by omega)]
      simp
theorem sign_ev (c : UInt8) : Ev (fun k => names_sign.f k (c.toNat : Int)) (signB c) := Ev.step (f := fun _ => some (signB c)) (fun k => sign_eq k c) (Ev.now _)
/-- Which names may be. -/
def rightL (l : List UInt8) : Bool := l.all signB && !decide (l = []) && decide (l.length ≤ 14) && !decide (l = [46]) && !decide (l = [46, 46])
theorem right_end (a : ByteArray) : (if a.toList = ([] : List UInt8) then some false else (if (a.size : Int) ≤ 14 then (if a.toList = ([46] : List UInt8) then (some false) else (some (a.toList != ([46, 46] : List UInt8)))) else (some false))) = some (!decide (L a = []) && decide ((L a).length ≤ 14) && !decide (L a = [46]) && !decide (L a = [46, 46])) := by
  have hs := L_len a
  rw [toL]
  by_cases h0 : L a = []
  · rw [if_pos h0, decide_eq_true h0]; rfl
  · by_cases h1 : (L a).length ≤ 14
    · by_cases h2 : L a = [46]
      · rw [if_neg h0, if_pos (by omega), if_pos h2, decide_eq_true h2]; simp
      · rw [if_neg h0, if_pos (by omega), if_neg h2, decide_eq_false h0, decide_eq_true h1, decide_eq_false h2]
        by_cases h3 : L a = [46, 46]
        · rw [h3]; rfl
        · rw [decide_eq_false h3, show (L a != [46, 46]) = true from bne_iff_ne.2 h3]; rfl
    · rw [if_neg h0, if_neg (by omega), decide_eq_false h1]; simp
theorem Right_ev (a : ByteArray) (ha : a.size ≤ 140737488351232) : Ev (fun k => names_Right.f k a) (rightL (L a)) := by
  have key : ∀ (d i : Nat), i + d = (L a).length → Ev (fun k => names_Right.l0 k a (a.size : Int) (i : Int)) (((L a).drop i).all signB && (!decide (L a = []) && decide ((L a).length ≤ 14) && !decide (L a = [46]) && !decide (L a = [46, 46]))) := by
    have hl := L_len a
    intro d
    induction d with
    | zero =>
      intro i hi
      rw [List.drop_of_length_le (by omega), List.all_nil, Bool.true_and]
      refine Ev.step (f := fun _ => some _) (fun k => ?_) (Ev.now _)
      simp only [names_Right.l0]
      rw [if_neg (by omega)]
      exact right_end a
    | succ d ih =>
      intro i hi
      have hil : i < (L a).length := by omega
      rw [List.drop_eq_getElem_cons hil, List.all_cons]
      refine Ev.step (fun k => by simp only [names_Right.l0]; rw [if_pos (by omega), if_pos (by omega), if_pos (by omega), bt_nat a i hil]) (Ev.bind (sign_ev _) ?_)
      cases hs : signB (L a)[i] with
      | false => exact Ev.congr (f := fun _ => some false) (fun k => by simp) (by simpa using Ev.now _)
      | true =>
        rw [Bool.true_and]
        refine Ev.congr (fun k => ?_) (ih (i + 1) (by omega))
        rw [if_pos rfl, wrap_id (by omega) (by omega)]
        rfl
  have h := key (L a).length 0 (by omega)
  rw [List.drop_zero] at h
  have e : rightL (L a) = ((L a).all signB && (!decide (L a = []) && decide ((L a).length ≤ 14) && !decide (L a = [46]) && !decide (L a = [46, 46]))) := by unfold rightL; simp only [Bool.and_assoc]
  rw [e]
  exact h
theorem refRight_ev (a : ByteArray) (ha : a.size ≤ 140737488351232) : Ev (fun k => escritoireref04_Right.f k a) (rightL (L a)) := by
  have hl := L_len a
  have key : ∀ (d i : Nat), i + d = (L a).length → Ev (fun k => escritoireref04_Right.l0 k a (i : Int)) (((L a).drop i).all signB && (!decide (L a = []) && decide ((L a).length ≤ 14) && !decide (L a = [46]) && !decide (L a = [46, 46]))) := by
    intro d
    induction d with
    | zero =>
      intro i hi
      rw [List.drop_of_length_le (by omega), List.all_nil, Bool.true_and]
      refine Ev.step (f := fun _ => some _) (fun k => ?_) (Ev.now _)
      simp only [escritoireref04_Right.l0]
      rw [if_neg (by omega), ← right_end a]
      by_cases h0 : L a = []
      · have hz : (L a).length = 0 := by rw [h0]; rfl
        rw [if_neg (show ¬ ((a.size : Int) ≥ 1) by omega), if_pos (show a.toList = [] by rw [toL]; exact h0)]
      · have hz : (L a).length ≠ 0 := fun h => h0 (List.eq_nil_of_length_eq_zero h)
        rw [if_pos (show (a.size : Int) ≥ 1 by omega), if_neg (show ¬ a.toList = [] by rw [toL]; exact h0)]
    | succ d ih =>
      intro i hi
      have hil : i < (L a).length := by omega
      rw [List.drop_eq_getElem_cons hil, List.all_cons]
      have hb := bt_nat a i hil
      have hw : wrap64 ((i : Int) + 1) = ((i + 1 : Nat) : Int) := by rw [wrap_id (by omega) (by omega)]; rfl
      cases hs : signB (L a)[i] with
      | false =>
        refine Ev.step (f := fun _ => some false) (fun k => ?_) (by simpa using Ev.now _)
        simp only [escritoireref04_Right.l0]
        unfold signB at hs
        simp only [Bool.or_eq_false_iff, decide_eq_false_iff_not] at hs
        obtain ⟨⟨⟨⟨s1, s2⟩, s3⟩, s4⟩, s5⟩ := hs
        rw [if_pos (by omega), if_pos (by omega), hb]
        repeat' split
        all_goals first | rfl | (exfalso; omega)
      | true =>
        rw [Bool.true_and]
        refine Ev.step (fun k => ?_) (ih (i + 1) (by omega))
        simp only [escritoireref04_Right.l0]
        unfold signB at hs
        simp only [Bool.or_eq_true, decide_eq_true_eq] at hs
        rw [if_pos (by omega), if_pos (by omega), hb, hw]
        repeat' split
        all_goals first | rfl | (exfalso; omega)
  have h := key (L a).length 0 (by omega)
  rw [List.drop_zero] at h
  have e : rightL (L a) = ((L a).all signB && (!decide (L a = []) && decide ((L a).length ≤ 14) && !decide (L a = [46]) && !decide (L a = [46, 46]))) := by unfold rightL; simp only [Bool.and_assoc]
  rw [e]
  exact h
end Go.Proofs.YtmbpaienbmbhfaaDoor.Pure
