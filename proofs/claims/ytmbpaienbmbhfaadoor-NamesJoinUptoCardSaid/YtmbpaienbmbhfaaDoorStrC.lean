/- Texts: which of names may not be; names.Split, names.Join. -/
import Derived.Shelf.Abstract
import Derived.ChangeKeysEq
import Derived.Shelf.Strings.OnBuilder
import Derived.Test.YtmbpaienbmbhfaaDoorStrB
import Derived.Test.YtmbpaienbmbhfaaDoorPrint2
import Derived.Test.YtmbpaienbmbhfaaDoorPrint1
namespace Go.Proofs.YtmbpaienbmbhfaaDoor.Str
open Go Go.Shelf Go.RowKit Go.Proofs.YtmbpaienbmbhfaaDoor.Print Go.Proofs.YtmbpaienbmbhfaaDoorW.PrintWords Go.Proofs.YtmbpaienbmbhfaaDoorW.PrintLast Go.Proofs.YtmbpaienbmbhfaaDoorW.PrintMore
set_option linter.unusedVariables false
set_option linter.unusedSimpArgs false
/-- Is one of them odd? -/
def anyOdd (k : Nat) : List ByteArray → Option Bool
  | [] => some false
  | x :: r => (names_odd.f k x).bind fun b => if b = true then some true else anyOdd k r
theorem anyOdd_mono (l : List ByteArray) : ∀ k, LeO (anyOdd k l) (anyOdd (k + 1) l) := by
  induction l with
  | nil => intro k; exact LeO.refl _
  | cons x r ih =>
    intro k
    unfold anyOdd
    refine LeO.bind (names_odd.mono x k) (fun b => ?_)
    exact LeO.ite (LeO.refl _) (ih k)
theorem str_at {w : World} {A : Option Addr} {n : Nat} {l : List ByteArray} (h : Kd.C Kd.string w A n l) (j : Nat) (hj : j < l.length) : ∃ ad, A = some ad ∧ w.cell? (ad.add j) = some (.string l[j]) := by
  obtain ⟨ad, hA, hx⟩ := Kd.at_string h (j : Int) (by omega) (by have := h.1; omega)
  have e : rdOf ByteArray.empty l (j : Int) = l[j] := by unfold rdOf; rw [Int.toNat_natCast, List.getD_eq_getElem?_getD, List.getElem?_eq_getElem hj]; rfl
  rw [e] at hx
  exact ⟨ad, hA, by simpa using hx⟩
set_option maxHeartbeats 400000 in
theorem IndexFunc_calls {w : World} {A : Option Addr} {c : Nat} {l : List ByteArray} (hr : Kd.C Kd.string w A l.length l) (hn : l.length ≤ 1000000000000) {k : Nat} {b : Bool} (hb : anyOdd k l = some b) :
    Calls Tryd.prog 35 #[.slice A l.length c, .func (.func 26) #[] #[]] w fun e w' => ∃ i : Int, e = .returned (.int .i64 i) ∧ decide (i ≥ 0) = b ∧ Below w.heap.size w w' := by
  have HR := Aside0.mk hr
  have HB0 := Aside0.mk hb
  clear hr hb
  have eg : ∀ args w, (callFunc 26 args).run Tryd.prog w = .ok (.enter 26 args) w := fun args w => by kernel_rfl
  go_enter Tryd.func35, Tryd.ntmps35
  go_wp2
  go_loopw [8] (fun x wr => ∃ j : Nat, j ≤ l.length ∧ x = .int .i64 (j : Int) ∧ Aside0 (anyOdd k (l.drop j) = some b) ∧ Aside0 (Below w.heap.size w wr)) (fun x _ => l.length - (intOf x).toNat)
  case atStart => exact ⟨0, by omega, rfl, HB0, ⟨Below.refl _ _⟩⟩
  case round =>
    obtain ⟨j, hj, rfl, HA, HB⟩ := hrel
    by_cases hlt : j < l.length
    · obtain ⟨ad, hA, x0⟩ := str_at (Kd.C_below HR.out HB.out) j hlt
      have h := HA.out
      rw [List.drop_eq_getElem_cons hlt] at h
      unfold anyOdd at h
      obtain ⟨o, ho, h2⟩ := Option.bind_eq_some_iff.1 h
      have HO := Aside0.mk ho
      subst hA
      clear h ho
      cases o with
      | true =>
        obtain rfl := Option.some.inj h2
        go_wp2_with (go_at_fn 26; refine (names_odd.calls k _ true _ HO.out).mono ?_; rintro e w1 ⟨rfl, hb⟩; have HB1 := Aside0.mk (HB.out.trans (hb.below.mono HB.out.size)); clear hb)
        go_ret
        exact ⟨_, rfl, by simp, HB1.out⟩
      | false =>
        rw [if_neg (by simp)] at h2
        have H2 := Aside0.mk h2
        clear h2
        go_wp2_with (go_at_fn 26; refine (names_odd.calls k _ false _ HO.out).mono ?_; rintro e w1 ⟨rfl, hb⟩; have HB1 := Aside0.mk (HB.out.trans (hb.below.mono HB.out.size)); clear hb)
        go_roundw
        all_goals first | exact ⟨j + 1, by omega, by go_num, H2, HB1⟩ | (simp [intOf]; omega)
    · have h := HA.out
      rw [List.drop_of_length_le (by omega)] at h
      obtain rfl := Option.some.inj h
      clear h
      go_wp2
      go_ret
      exact ⟨_, rfl, by simp, HB.out⟩
theorem ContainsFunc_calls {w : World} {A : Option Addr} {c : Nat} {l : List ByteArray} (hr : Kd.C Kd.string w A l.length l) (hn : l.length ≤ 1000000000000) {k : Nat} {b : Bool} (hb : anyOdd k l = some b) :
    Calls Tryd.prog 25 #[.slice A l.length c, .func (.func 26) #[] #[]] w fun e w' => e = .returned (.bool b) ∧ Below w.heap.size w w' := by
  have HR := Aside0.mk hr
  have HB0 := Aside0.mk hb
  clear hr hb
  go_enter Tryd.func25, Tryd.ntmps25
  go_wp2_with (go_at_call 35; refine (IndexFunc_calls HR.out hn HB0.out).mono ?_; rintro e w1 ⟨i, rfl, hi, hb⟩; have HI := Aside0.mk hi; have HB := Aside0.mk hb; clear hi hb)
  go_ret
  exact ⟨by rw [← HI.out]; rfl, HB.out⟩
theorem empty_yes {t : ByteArray} (h : t.size = 0) : t.toList.isEmpty = true := by
  rw [ByteArray.toList_eq]
  have : t.data.toList.length = 0 := by rw [Array.length_toList]; exact h
  exact List.isEmpty_iff_length_eq_zero.2 this
theorem empty_no {t : ByteArray} (h : ¬ t.size = 0) : t.toList.isEmpty = false := by
  rw [ByteArray.toList_eq]
  have : ¬ t.data.toList.length = 0 := by rw [Array.length_toList]; exact h
  rw [Bool.eq_false_iff]
  exact fun h2 => this (List.isEmpty_iff_length_eq_zero.1 h2)
def nsplitF (k : Nat) (a : ByteArray) : Option (List ByteArray × Int) := (strings_CutPrefix.f a ⟨#[47]⟩).bind fun t => if t.2 = true then (if (a.size : Int) > 120 then some ([], 3) else if t.1.size = 0 then some ([], 0) else if t.1.size ≤ 1000000 then (anyOdd k (splitB t.1)).bind fun b => (if b = true then some ([], 3) else some (splitB t.1, 0)) else none) else some ([], 3)
theorem nsplitF_mono (a : ByteArray) (k : Nat) : LeO (nsplitF k a) (nsplitF (k + 1) a) := by
  unfold nsplitF
  refine LeO.bind (LeO.refl _) (fun t => LeO.ite (LeO.ite (LeO.refl _) (LeO.ite (LeO.refl _) (LeO.ite (LeO.bind (anyOdd_mono _ k) (fun b => LeO.refl _)) (LeO.refl _)))) (LeO.refl _))
set_option maxHeartbeats 1000000 in
theorem NSplit_calls (k : Nat) (a : ByteArray) (r1 : List ByteArray) (r2 : Int) (w : World) (h : nsplitF k a = some (r1, r2)) :
    Calls Tryd.prog 9 #[.string a] w fun e w' => ∃ v, e = .returned (.tuple #[v, .int .i64 r2]) ∧ Kd.R Kd.string 9 w' w.heap.size (fun _ => True) v r1 ∧ Below w.heap.size w w' := by
  unfold nsplitF at h
  obtain ⟨t, hc, h⟩ := Option.bind_eq_some_iff.1 h
  obtain ⟨t1, t2⟩ := t
  have CP := Aside0.mk hc
  clear hc
  cases t2 with
  | false =>
    obtain ⟨rfl, rfl⟩ := Prod.mk.inj (Option.some.inj h)
    clear h
    go_enter Tryd.func9, Tryd.ntmps9
    go_wp2_with (go_at_call 23; refine (strings_CutPrefix.calls a _ t1 false _ CP.out).mono ?_; rintro e w1 ⟨rfl, hb⟩; have HB := Aside0.mk hb.below; clear hb)
    go_returns
    exact ⟨_, rfl, Kd.R_nil _ _ _ _ _, HB.out⟩
  | true =>
    rw [if_pos rfl] at h
    by_cases c1 : (a.size : Int) > 120
    · rw [if_pos c1] at h
      obtain ⟨rfl, rfl⟩ := Prod.mk.inj (Option.some.inj h)
      have d1 : decide ((a.size : Int) > 120) = true := decide_eq_true c1
      clear h c1
      go_enter Tryd.func9, Tryd.ntmps9
      go_wp2_with (go_at_call 23; refine (strings_CutPrefix.calls a _ t1 true _ CP.out).mono ?_; rintro e w1 ⟨rfl, hb⟩; have HB := Aside0.mk hb.below; clear hb)
      go_returns
      exact ⟨_, rfl, Kd.R_nil _ _ _ _ _, HB.out⟩
    · rw [if_neg c1] at h
      have d1 : decide ((a.size : Int) > 120) = false := decide_eq_false c1
      clear c1
      by_cases c2 : t1.size = 0
      · rw [if_pos c2] at h
        obtain ⟨rfl, rfl⟩ := Prod.mk.inj (Option.some.inj h)
        have d2 : t1.toList.isEmpty = true := empty_yes c2
        clear h c2
        go_enter Tryd.func9, Tryd.ntmps9
        go_wp2_with (go_at_call 23; refine (strings_CutPrefix.calls a _ t1 true _ CP.out).mono ?_; rintro e w1 ⟨rfl, hb⟩; have HB := Aside0.mk hb.below; clear hb)
        go_returns
        exact ⟨_, rfl, Kd.R_nil _ _ _ _ _, HB.out⟩
      · rw [if_neg c2] at h
        have d2 : t1.toList.isEmpty = false := empty_no c2
        clear c2
        by_cases c3 : t1.size ≤ 1000000
        · rw [if_pos c3] at h
          obtain ⟨b, hb0, h⟩ := Option.bind_eq_some_iff.1 h
          have AO := Aside0.mk hb0
          have LE := Aside0.mk (splitB_le t1)
          have SZ := Aside0.mk c3
          clear hb0 c3
          cases b with
          | true =>
            obtain ⟨rfl, rfl⟩ := Prod.mk.inj (Option.some.inj h)
            clear h
            go_enter Tryd.func9, Tryd.ntmps9
            go_wp2_with (first
              | (go_at_call 23; refine (strings_CutPrefix.calls a _ t1 true _ CP.out).mono ?_; rintro e w1 ⟨rfl, hb⟩; have HB := Aside0.mk hb.below; clear hb)
              | (go_at_call 24; refine (Split_calls _ t1 SZ.out).mono ?_; rintro e w2 ⟨v, rfl, ho, hb⟩; obtain ⟨C, n, rfl, hCn, hC⟩ := Kd.R_reads ho; have RC := Aside0.mk hC; have HB2 := Aside0.mk (HB.out.trans (hb.mono HB.out.size)); clear ho hb hCn hC)
              | (go_at_call 25; refine (ContainsFunc_calls RC.out (by have := LE.out; have := SZ.out; omega) AO.out).mono ?_; rintro e w3 ⟨rfl, hb⟩; have HB3 := Aside0.mk (HB2.out.trans (hb.mono HB2.out.size)); clear hb))
            go_returns
            exact ⟨_, rfl, Kd.R_nil _ _ _ _ _, HB3.out⟩
          | false =>
            obtain ⟨rfl, rfl⟩ := Prod.mk.inj (Option.some.inj h)
            clear h
            go_enter Tryd.func9, Tryd.ntmps9
            go_wp2_with (first
              | (go_at_call 23; refine (strings_CutPrefix.calls a _ t1 true _ CP.out).mono ?_; rintro e w1 ⟨rfl, hb⟩; have HB := Aside0.mk hb.below; clear hb)
              | (go_at_call 24; refine (Split_calls _ t1 SZ.out).mono ?_; rintro e w2 ⟨v, rfl, ho, hb⟩; have HO := Aside0.mk (Kd.R_lower ho HB.out.size); obtain ⟨C, n, rfl, hCn, hC⟩ := Kd.R_reads ho; have RC := Aside0.mk hC; have HB2 := Aside0.mk (HB.out.trans (hb.mono HB.out.size)); clear ho hb hCn hC)
              | (go_at_call 25; refine (ContainsFunc_calls RC.out (by have := LE.out; have := SZ.out; omega) AO.out).mono ?_; rintro e w3 ⟨rfl, hb⟩; have HB3 := Aside0.mk (HB2.out.trans (hb.mono HB2.out.size)); have HO3 := Aside0.mk (Kd.R_below HO.out hb); clear hb))
            go_returns
            exact ⟨_, rfl, HO3.out, HB3.out⟩
        · rw [if_neg c3] at h
          cases h
end Go.Proofs.YtmbpaienbmbhfaaDoor.Str
