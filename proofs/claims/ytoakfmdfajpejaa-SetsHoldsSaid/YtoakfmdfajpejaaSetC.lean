/- Sets of files: ContainsFunc, Free, Take, Drop, Clash. -/
import Derived.Shelf.Abstract
import Derived.Test.YtoakfmdfajpejaaSetB
namespace Go.Proofs.Ytoakfmdfajpejaa.Sets
open Go Go.Maps Go.RowKit Go.Proofs.Ytoakfmdfajpejaa.ML Go.Proofs.Ytoakfmdfajpejaa.Print Go.Proofs.YtoakfmdfajpejaaW.PrintWords Go.Proofs.YtoakfmdfajpejaaW.PrintLast Go.Proofs.YtoakfmdfajpejaaW.PrintMore
set_option linter.unusedVariables false
set_option linter.unusedSimpArgs false
section nil
variable {P : Program} {e : TypeId} {α : Type} {k t : TypeId} {ops : Array Oper} {rest : List Oper} {o : Oper} {a : Act} {Q : Exit → Act → World → Prop} {w : World}
theorem wp_look_nil (T : MT P t k e) (x : EK P e α) (hg : o.guard = none) (mo xo : Operand) (c : Bool) (hop : o.op = Op.lookup t mo xo c) (hm : a.eval mo = .map none) (key : Int) (hx : a.eval xo = .int .i64 key) (hkey : (Lit.int .i64 key).wf = true)
    (hK : wpList P ops Q rest (a.put o.dst (if c then .tuple #[x.val x.zero, .bool false] else x.val x.zero)) w) : wpList P ops Q (o :: rest) a w := by
  refine wpList_plain hg fun K' hK' => ?_
  have hrun := run_look_nil T x w key hkey c
  unfold Oper.wp
  simp [execOp, hop, hm, hx, hrun, Result.andThen]
  exact hK' _ _ hK
end nil
/-- The place of the first one. -/
def firstF (p : Int → Bool) (l : List Int) : Int := if l.any p = true then (l.findIdx p : Int) else -1
theorem firstF_hit {p : Int → Bool} {l : List Int} {j : Nat} {k : Int} (h : l[j]? = some k) (hk : p k = true) (hb : ∀ i x, i < j → l[i]? = some x → p x = false) : firstF p l = j := by
  have hj : j < l.length := (List.getElem?_eq_some_iff.1 h).1
  have hkj : l[j] = k := (List.getElem?_eq_some_iff.1 h).2
  unfold firstF
  rw [if_pos (List.any_eq_true.2 ⟨k, List.mem_of_getElem? h, hk⟩)]
  have : l.findIdx p = j := by
    rw [List.findIdx_eq hj]
    refine ⟨by rw [hkj]; exact hk, fun i hi => ?_⟩
    exact hb i _ hi (List.getElem?_eq_getElem (by omega))
  rw [this]
theorem firstF_miss {p : Int → Bool} {l : List Int} (hb : ∀ i x, i < l.length → l[i]? = some x → p x = false) : firstF p l = -1 := by
  unfold firstF
  rw [if_neg]
  intro h
  obtain ⟨x, hx, hp⟩ := List.any_eq_true.1 h
  obtain ⟨i, hi, e⟩ := List.mem_iff_getElem.1 hx
  have := hb i x hi (by rw [← e]; exact List.getElem?_eq_getElem hi)
  rw [hp] at this
  cases this
theorem firstF_ge (p : Int → Bool) (l : List Int) : decide (firstF p l ≥ 0) = l.any p := by
  unfold firstF
  by_cases h : l.any p = true
  · rw [if_pos h, h]; simp
  · rw [if_neg h]; simp at h ⊢; exact fun x hx => by simpa using h x hx
theorem firstF_range (p : Int → Bool) (l : List Int) : -1 ≤ firstF p l ∧ firstF p l ≤ l.length := by
  unfold firstF
  have := List.findIdx_le_length (p := p) (xs := l)
  split <;> omega
/-- What is asked of a function value that is handed on. -/
def Tells (w : World) (g : Nat) (lb : Array Value) (p : Int → Bool) : Prop := ∀ (W : World), Below w.heap.size w W → ∀ x, okn x → Calls Try.prog g (#[.int .i64 x] ++ lb) W fun e W' => e = .returned (.bool (p x)) ∧ Below W.heap.size W W'
set_option maxHeartbeats 2000000 in
theorem IndexFunc_calls {w : World} {A : Option Addr} {c : Nat} {l : List Int} (hr : Kd.C (Kd.int .i64) w A l.length l) (hl : l.length ≤ 1000) (hi : ∀ k ∈ l, okn k) (g : Nat) (lb : Array Value) (p : Int → Bool) (hp : Tells w g lb p)
    (eg : ∀ args w, (callFunc g args).run Try.prog w = .ok (.enter g args) w) :
    Calls Try.prog 34 #[.slice A l.length c, .func (.func g) #[] lb] w fun e w' => e = .returned (.int .i64 (firstF p l)) ∧ Below w.heap.size w w' := by
  have HR := Aside0.mk hr
  have HI := Aside0.mk hi
  have HP := Aside0.mk hp
  clear hr hi hp
  go_enter Try.func34, Try.ntmps34
  go_wp2
  go_loopw [8] (fun x wr => ∃ j : Nat, j ≤ l.length ∧ x = .int .i64 (j : Int) ∧ (∀ i x, i < j → l[i]? = some x → p x = false) ∧ Below w.heap.size w wr) (fun x _ => l.length - (intOf x).toNat)
  case atStart => exact ⟨0, by omega, rfl, fun i x h => by omega, Below.refl _ _⟩
  case round =>
    obtain ⟨j, hj, rfl, hall, hb⟩ := hrel
    have HA := Aside0.mk hall
    have HB := Aside0.mk hb
    clear hall hb
    by_cases hlt : j < l.length
    · obtain ⟨ad, k, hA, hk, hx⟩ := elem_at (Kd.C_below HR.out HB.out) j hlt
      have HK := Aside0.mk (HI.out k (List.mem_of_getElem? hk))
      have HE := Aside0.mk hk
      subst hA
      clear hk
      cases hpk : p k with
      | true =>
        have hc := HP.out _ HB.out k HK.out
        rw [hpk] at hc
        have HC := Aside0.mk hc
        clear hc
        go_wp2_with (go_at_fn g; refine HC.out.mono ?_; rintro e w2 ⟨rfl, hb⟩; have B2 := Aside0.mk (HB.out.trans (hb.mono HB.out.size)); clear hb)
        go_ret
        refine ⟨?_, B2.out⟩
        rw [firstF_hit HE.out hpk HA.out]
        rfl
      | false =>
        have hc := HP.out _ HB.out k HK.out
        rw [hpk] at hc
        have HC := Aside0.mk hc
        clear hc
        go_wp2_with (go_at_fn g; refine HC.out.mono ?_; rintro e w2 ⟨rfl, hb⟩; have B2 := Aside0.mk (HB.out.trans (hb.mono HB.out.size)); clear hb)
        go_roundw
        case rel =>
          refine ⟨j + 1, by omega, by go_num, fun i y hi hy => ?_, B2.out⟩
          by_cases e : i = j
          · subst e; have := HE.out; rw [hy] at this; rw [Option.some.inj this]; exact hpk
          · exact HA.out i y (by omega) hy
        case measure => simp [intOf]; omega
    · have HD := Aside0.mk (firstF_miss fun i x hi => HA.out i x (by omega))
      go_wp2
      go_ret
      refine ⟨?_, HB.out⟩
      rw [HD.out]
      rfl
set_option maxHeartbeats 1000000 in
theorem ContainsFunc_calls {w : World} {A : Option Addr} {c : Nat} {l : List Int} (hr : Kd.C (Kd.int .i64) w A l.length l) (hl : l.length ≤ 1000) (hi : ∀ k ∈ l, okn k) (g : Nat) (lb : Array Value) (p : Int → Bool) (hp : Tells w g lb p)
    (eg : ∀ args w, (callFunc g args).run Try.prog w = .ok (.enter g args) w) :
    Calls Try.prog 26 #[.slice A l.length c, .func (.func g) #[] lb] w fun e w' => e = .returned (.bool (l.any p)) ∧ Below w.heap.size w w' := by
  have HC := Aside0.mk (IndexFunc_calls (c := c) hr hl hi g lb p hp eg)
  have e := firstF_ge p l
  have HE := Aside0.mk e
  clear hr hi hp hl e
  go_enter Try.func26, Try.ntmps26
  go_wp2_with (go_at_call 34; refine HC.out.mono ?_; rintro e w2 ⟨rfl, hb⟩; have B2 := Aside0.mk hb; clear hb)
  go_ret
  refine ⟨?_, B2.out⟩
  rw [← HE.out]
  rfl
set_option maxHeartbeats 2000000 in
theorem Index_calls {w : World} {A : Option Addr} {c : Nat} {l : List Int} (hr : Kd.C (Kd.int .i64) w A l.length l) (hl : l.length ≤ 1000) (v : Int) :
    Calls Try.prog 35 #[.slice A l.length c, .int .i64 v] w fun e w' => e = .returned (.int .i64 (firstF (fun x => v == x) l)) ∧ Below w.heap.size w w' := by
  have HR := Aside0.mk hr
  clear hr
  go_enter Try.func35, Try.ntmps35
  go_wp2
  go_loopw [8] (fun x wr => ∃ j : Nat, j ≤ l.length ∧ x = .int .i64 (j : Int) ∧ (∀ i x, i < j → l[i]? = some x → (v == x) = false) ∧ Below w.heap.size w wr) (fun x _ => l.length - (intOf x).toNat)
  case atStart => exact ⟨0, by omega, rfl, fun i x h => by omega, Below.refl _ _⟩
  case round =>
    obtain ⟨j, hj, rfl, hall, hb⟩ := hrel
    have HA := Aside0.mk hall
    have HB := Aside0.mk hb
    clear hall hb
    by_cases hlt : j < l.length
    · obtain ⟨ad, k, hA, hk, hx⟩ := elem_at (Kd.C_below HR.out HB.out.drew) j hlt
      obtain ⟨ad', k', hA', hk', hx'⟩ := elem_at (Kd.C_below HR.out HB.out) j hlt
      rw [hk] at hk'
      obtain rfl := Option.some.inj hk'
      rw [hA] at hA'
      obtain rfl := Option.some.inj hA'
      have HE := Aside0.mk hk
      subst hA
      clear hk hk' hA'
      cases hpk : (v == k) with
      | true =>
        go_wp2
        go_ret
        refine ⟨?_, by first | exact HB.out | exact HB.out.drew⟩
        rw [firstF_hit HE.out hpk HA.out]
        rfl
      | false =>
        go_wp2
        go_roundw
        case rel =>
          refine ⟨j + 1, by omega, by go_num, fun i y hi hy => ?_, by first | exact HB.out | exact HB.out.drew⟩
          by_cases e : i = j
          · subst e; have := HE.out; rw [hy] at this; rw [Option.some.inj this]; exact hpk
          · exact HA.out i y (by omega) hy
        case measure => simp [intOf]; omega
    · have HD := Aside0.mk (firstF_miss (p := fun x => v == x) fun i x hi => HA.out i x (by omega))
      go_wp2
      go_ret
      refine ⟨?_, HB.out⟩
      rw [HD.out]
      rfl
set_option maxHeartbeats 1000000 in
theorem Contains_calls {w : World} {A : Option Addr} {c : Nat} {l : List Int} (hr : Kd.C (Kd.int .i64) w A l.length l) (hl : l.length ≤ 1000) (v : Int) :
    Calls Try.prog 31 #[.slice A l.length c, .int .i64 v] w fun e w' => e = .returned (.bool (l.any fun x => v == x)) ∧ Below w.heap.size w w' := by
  have HC := Aside0.mk (Index_calls (c := c) hr hl v)
  have e := firstF_ge (fun x => v == x) l
  have HE := Aside0.mk e
  clear hr hl e
  go_enter Try.func31, Try.ntmps31
  go_wp2_with (go_at_call 35; refine HC.out.mono ?_; rintro e w2 ⟨rfl, hb⟩; have B2 := Aside0.mk hb; clear hb)
  go_ret
  refine ⟨?_, B2.out⟩
  rw [← HE.out]
  rfl
/-- Held by another one? -/
def heldBy (m : List (Int × Int)) (me k : Int) : Bool := (get m k).isSome && ((get m k).getD 0 != me)
set_option maxHeartbeats 1000000 in
theorem FreeF_calls {w : World} {v : Value} {m : List (Int × Int)} (h : MvI w v m) (me : Int) {b1 b2 : Nat} (h1 : w.cell? ⟨b1, 0, none⟩ = some v) (h2 : w.cell? ⟨b2, 0, none⟩ = some (.int .i64 me)) (x : Int) (hx : okn x) :
    Calls Try.prog 27 #[.int .i64 x, .pointer (some ⟨b1, 0, none⟩), .pointer (some ⟨b2, 0, none⟩)] w fun e w' => e = .returned (.bool (heldBy m me x)) ∧ Below w.heap.size w w' := by
  rcases h with ⟨rfl, rfl⟩ | ⟨s, rfl, hs⟩
  · have HX := Aside0.mk hx
    clear hx
    go_enter Try.func27, Try.ntmps27
    go_wp2_with (at_lookup; refine wp_look_nil mtHolds ekI rfl _ _ true rfl rfl x rfl HX.out ?_)
    go_ret
    exact ⟨rfl, Below.refl _ _⟩
  · have HX := Aside0.mk hx
    have HS := Aside0.mk hs
    clear hx hs
    unfold heldBy
    cases hg : (get m x) with
    | none =>
      go_enter Try.func27, Try.ntmps27
      go_wp2_with (at_lookup; refine wp_look_ok (x := ekI) mtHolds rfl _ _ rfl rfl HS.out x rfl HX.out ?_; rw [hg])
      go_ret
      exact ⟨rfl, Below.refl _ _⟩
    | some by_ =>
      go_enter Try.func27, Try.ntmps27
      go_wp2_with (at_lookup; refine wp_look_ok (x := ekI) mtHolds rfl _ _ rfl rfl HS.out x rfl HX.out ?_; rw [hg]; change wpList _ _ _ _ (Act.put _ _ (.tuple #[.int .i64 by_, .bool true])) _)
      go_ret
      exact ⟨rfl, Below.refl _ _⟩
theorem FreeF_tells {w : World} {v : Value} {m : List (Int × Int)} (h : MvI w v m) (me : Int) {b1 b2 : Nat} (h1 : w.heap[b1]? = some (.cells #[v] 42 (0, 0))) (h2 : w.heap[b2]? = some (.cells #[.int .i64 me] 3 (0, 0))) :
    Tells w 27 #[.pointer (some ⟨b1, 0, none⟩), .pointer (some ⟨b2, 0, none⟩)] (heldBy m me) := fun W hW x hx =>
  FreeF_calls (h.below hW) me (cell_of (blk_below h1 hW) (o := 0) rfl) (cell_of (blk_below h2 hW) (o := 0) rfl) x hx
def freeL (m : List (Int × Int)) (me : Int) (l : List Int) : Bool := !(l.any (heldBy m me))
set_option maxHeartbeats 1000000 in
theorem Free_calls {w : World} {v : Value} {m : List (Int × Int)} (h : MvI w v m) {A : Option Addr} {c : Nat} {l : List Int} (hr : Kd.C (Kd.int .i64) w A l.length l) (hl : l.length ≤ 1000) (hi : ∀ k ∈ l, okn k) (me : Int) :
    Calls Try.prog 17 #[.slice A l.length c, v, .int .i64 me] w fun e w' => e = .returned (.bool (freeL m me l)) ∧ Below w.heap.size w w' := by
  obtain ⟨mv, rfl⟩ : ∃ mv, v = .map mv := by rcases h with ⟨rfl, _⟩ | ⟨s, rfl, _⟩ <;> exact ⟨_, rfl⟩
  have HV := Aside0.mk h
  have HR := Aside0.mk hr
  have HL := Aside0.mk hl
  have HI := Aside0.mk hi
  have hu := Try.underlying42
  have hu3 := Try.underlying3
  have eg : ∀ args w, (callFunc 27 args).run Try.prog w = .ok (.enter 27 args) w := fun args w => by kernel_rfl
  have EG := Aside0.mk eg
  clear h hr hl hi eg
  unfold freeL
  go_enter Try.func17, Try.ntmps17
  go_wp2_with (first
    | ((with_reducible refine gate_dst (N := 4) rfl ?_); refine box_event ?hg (N := 4) ?hd (cs := #[.map mv]) (t := 42) ?hr ?_; (case hd => rfl); (case hg => rfl); (case hr => first | (go_simp; done) | (go_simp; rfl)); intro b1 hg1 w1 hbox hb; have X1 := Aside0.mk hbox; have B1 := Aside0.mk hb; clear hb hbox hg1)
    | ((with_reducible refine gate_dst (N := 5) rfl ?_); refine box_event ?hg (N := 5) ?hd (cs := #[.int .i64 me]) (t := 3) ?hr ?_; (case hd => rfl); (case hg => rfl); (case hr => first | (go_simp; done) | (go_simp; rfl)); intro b2 hg2 w2 hbox hb; have X2 := Aside0.mk hbox; have X3 := Aside0.mk (blk_below X1.out hb); have B2 := Aside0.mk (B1.out.trans (hb.mono B1.out.size)); clear hb hbox hg2)
    | (go_at_call 26; refine (ContainsFunc_calls (Kd.C_below HR.out B2.out) HL.out HI.out 27 _ (heldBy m me) (FreeF_tells (HV.out.below B2.out) me X3.out X2.out) EG.out).mono ?_; rintro e w3 ⟨rfl, hb⟩; have B3 := Aside0.mk (B2.out.trans (hb.mono B2.out.size)); clear hb))
  go_ret
  exact ⟨rfl, B3.out⟩
end Go.Proofs.Ytoakfmdfajpejaa.Sets
