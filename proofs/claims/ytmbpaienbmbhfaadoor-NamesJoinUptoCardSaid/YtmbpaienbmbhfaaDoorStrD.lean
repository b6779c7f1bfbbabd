/- Texts: strings.Join. -/
import Derived.Test.YtmbpaienbmbhfaaDoorStrC
namespace Go.Proofs.YtmbpaienbmbhfaaDoor.Str
open Go Go.Shelf Go.RowKit Go.Proofs.YtmbpaienbmbhfaaDoor.Print Go.Proofs.YtmbpaienbmbhfaaDoorW.PrintWords Go.Proofs.YtmbpaienbmbhfaaDoorW.PrintLast Go.Proofs.YtmbpaienbmbhfaaDoorW.PrintMore
set_option linter.unusedVariables false
set_option linter.unusedSimpArgs false
shelf_lay Lays.n156 Nm 156 at Tryd as Tryd.lays156
theorem extra156 : Builder.Extra Tryd.prog Tryd.lays156_ren where
  sizeBuilder := by kernel_rfl
  liesBuilder := by kernel_rfl
  t5 := Tryd.underlying5
  a5 := run_isAgg_plain Tryd.underlying5 rfl
  z5 := fun w => by kernel_rfl
  v5 := fun w => by kernel_rfl
  infoByte := by kernel_rfl
  cellsByte := by kernel_rfl
  sizeByte := by kernel_rfl
  neB5 := by decide
def joinL (l : List ByteArray) : List UInt8 := Lib.join (l.map (·.data.toList)) [47]
theorem SJoin_calls {w : World} {A : Option Addr} {c : Nat} {l : List ByteArray} (hr : Kd.C Kd.string w A l.length l) (hc : l.length ≤ c) (hn : l.length ≤ 140737488355328) (hl : (joinL l).length ≤ 140737488355328) :
    Calls Tryd.prog 29 #[.slice A l.length c, .string ⟨#[47]⟩] w fun e w' => e = .returned (.string (mk (joinL l))) ∧ Below w.heap.size w w' := by
  cases hA : A with
  | none =>
    have h0 : l.length = 0 := by
      by_cases h : l.length = 0
      · exact h
      · obtain ⟨ad, hA', _⟩ := str_at hr 0 (by omega)
        rw [hA] at hA'; cases hA'
    obtain rfl : l = [] := List.eq_nil_of_length_eq_zero h0
    exact (Any.strings_Join_none Tryd.lays156 extra156 none c ⟨#[47]⟩ w).mono fun e w' h => ⟨h.1, h.2 ▸ Below.refl _ _⟩
  | some ad =>
    subst hA
    by_cases h0 : l.length = 0
    · obtain rfl : l = [] := List.eq_nil_of_length_eq_zero h0
      exact (Any.strings_Join_none Tryd.lays156 extra156 (some ad) c ⟨#[47]⟩ w).mono fun e w' h => ⟨h.1, h.2 ▸ Below.refl _ _⟩
    · obtain ⟨ad0, hA0, hx0⟩ := str_at hr 0 (by omega)
      obtain rfl := Option.some.inj hA0
      obtain ⟨bk, o, sp⟩ := ad
      cases sp with
      | some s =>
        exfalso
        unfold World.cell? Addr.add at hx0
        simp at hx0
        split at hx0 <;> simp at hx0
      | none =>
        have hx : ∀ (j : Nat) x, l[j]? = some x → w.cell? ⟨bk, o + j, none⟩ = some (.string x) := by
          intro j x hj
          obtain ⟨hjl, e⟩ := List.getElem?_eq_some_iff.1 hj
          obtain ⟨ad', hA', hx⟩ := str_at hr j hjl
          obtain rfl := Option.some.inj hA'
          rw [← e, ← hx]
          unfold Addr.add
          by_cases hj0 : j = 0
          · subst hj0; rfl
          · rw [if_neg hj0]
        exact Any.strings_Join Tryd.lays156 extra156 bk o c l ⟨#[47]⟩ w hx (World.block_lt_of_cell? w _ hx0) hn hc hl
theorem SJoin_as {w : World} {A : Option Addr} {c : Nat} {l : List ByteArray} (hr : Kd.C Kd.string w A l.length l) (hc : l.length ≤ c) (hn : l.length ≤ 140737488355328) (hl : (joinL l).length ≤ 140737488355328) {x : ByteArray} (hx : mk (joinL l) = x) :
    Calls Tryd.prog 29 #[.slice A l.length c, .string ⟨#[47]⟩] w fun e w' => e = .returned (.string x) ∧ Below w.heap.size w w' := by
  subst hx
  exact SJoin_calls hr hc hn hl
def njoinF (k : Nat) (l : List ByteArray) : Option (ByteArray × Int) := if l.length ≤ 1000000000000 ∧ (joinL l).length ≤ 140737488355000 then (if ((⟨#[47]⟩ : ByteArray) ++ mk (joinL l)).size > 120 then some (⟨#[]⟩, 3) else (anyOdd k l).bind fun b => if b = true then some (⟨#[]⟩, 3) else some ((⟨#[47]⟩ : ByteArray) ++ mk (joinL l), 0)) else none
theorem njoinF_mono (l : List ByteArray) (k : Nat) : LeO (njoinF k l) (njoinF (k + 1) l) := by
  unfold njoinF
  exact LeO.ite (LeO.ite (LeO.refl _) (LeO.bind (anyOdd_mono _ k) (fun b => LeO.refl _))) (LeO.refl _)
set_option maxHeartbeats 400000 in
theorem NJoin_calls (k : Nat) (A : Option Addr) (c : Nat) (l : List ByteArray) (r1 : ByteArray) (r2 : Int) (w : World) (hr : Kd.C Kd.string w A l.length l) (hc : l.length ≤ c) (h : njoinF k l = some (r1, r2)) :
    Calls Tryd.prog 15 #[.slice A l.length c] w fun e w' => e = .returned (.tuple #[.string r1, .int .i64 r2]) ∧ Below w.heap.size w w' := by
  unfold njoinF at h
  have HR := Aside0.mk hr
  have HC := Aside0.mk hc
  clear hr hc
  by_cases c0 : l.length ≤ 1000000000000 ∧ (joinL l).length ≤ 140737488355000
  · rw [if_pos c0] at h
    obtain ⟨x, hx⟩ : ∃ x, mk (joinL l) = x := ⟨_, rfl⟩
    rw [hx] at h
    have hxs : x.size = (joinL l).length := by rw [← hx]; exact List.size_toArray
    have hps : ((⟨#[47]⟩ : ByteArray) ++ x).size = 1 + x.size := by rw [ByteArray.size_append]; rfl
    rw [hps] at h
    have hs1 : (9223372036854775807 < 1 + x.size) = False := eq_false (by omega)
    have HX := Aside0.mk hx
    have C0 := Aside0.mk c0
    clear hx c0 hxs hps
    by_cases c1 : 1 + x.size > 120
    · rw [if_pos c1] at h
      obtain ⟨rfl, rfl⟩ := Prod.mk.inj (Option.some.inj h)
      have d1 : (120 < 1 + (x.size : Int)) = True := eq_true (by omega)
      clear h c1
      go_enter Tryd.func15, Tryd.ntmps15
      go_wp2_with (first
        | (go_at_call 29; refine (SJoin_as HR.out HC.out (by have := C0.out.1; omega) (by have := C0.out.2; omega) HX.out).mono ?_; rintro e w1 ⟨rfl, hb⟩; have HB := Aside0.mk hb; clear hb))
      go_returns
      exact ⟨rfl, HB.out⟩
    · rw [if_neg c1] at h
      obtain ⟨b, hb0, h⟩ := Option.bind_eq_some_iff.1 h
      have AO := Aside0.mk hb0
      have d1 : (120 < 1 + (x.size : Int)) = False := eq_false (by omega)
      clear c1 hb0
      cases b with
      | true =>
        obtain ⟨rfl, rfl⟩ := Prod.mk.inj (Option.some.inj h)
        clear h
        go_enter Tryd.func15, Tryd.ntmps15
        go_wp2_with (first
          | (go_at_call 29; refine (SJoin_as HR.out HC.out (by have := C0.out.1; omega) (by have := C0.out.2; omega) HX.out).mono ?_; rintro e w1 ⟨rfl, hb⟩; have HB := Aside0.mk hb; clear hb)
          | (go_at_call 25; refine (ContainsFunc_calls (Kd.C_below HR.out HB.out) (by have := C0.out.1; omega) AO.out).mono ?_; rintro e w2 ⟨rfl, hb⟩; have HB2 := Aside0.mk (HB.out.trans (hb.mono HB.out.size)); clear hb))
        go_returns
        exact ⟨rfl, HB2.out⟩
      | false =>
        obtain ⟨rfl, rfl⟩ := Prod.mk.inj (Option.some.inj h)
        clear h
        go_enter Tryd.func15, Tryd.ntmps15
        go_wp2_with (first
          | (go_at_call 29; refine (SJoin_as HR.out HC.out (by have := C0.out.1; omega) (by have := C0.out.2; omega) HX.out).mono ?_; rintro e w1 ⟨rfl, hb⟩; have HB := Aside0.mk hb; clear hb)
          | (go_at_call 25; refine (ContainsFunc_calls (Kd.C_below HR.out HB.out) (by have := C0.out.1; omega) AO.out).mono ?_; rintro e w2 ⟨rfl, hb⟩; have HB2 := Aside0.mk (HB.out.trans (hb.mono HB.out.size)); clear hb))
        go_returns
        exact ⟨rfl, HB2.out⟩
  · rw [if_neg c0] at h
    cases h
end Go.Proofs.YtmbpaienbmbhfaaDoor.Str
