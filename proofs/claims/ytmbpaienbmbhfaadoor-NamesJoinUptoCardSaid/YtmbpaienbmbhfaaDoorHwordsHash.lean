/- words.Hash: the bytes of a text, one behind the other. -/
import Derived.Test.YtmbpaienbmbhfaaDoorPrint0
import Derived.WalkSpells
import Derived.Test.YtmbpaienbmbhfaaDoorHConv
namespace Go.Proofs.YtmbpaienbmbhfaaDoor.Print
open Go.RowKit Go.Proofs.YtmbpaienbmbhfaaDoorW.PrintWords Go.Proofs.YtmbpaienbmbhfaaDoorW.PrintLast Go.Proofs.YtmbpaienbmbhfaaDoorW.PrintMore
def hashStep (h c : Int) : Int := IntKind.u64.wrap ((Go.bits .xor .u64 h (IntKind.u64.wrap c)) * 1099511628211)
def hashFrom (h : Int) (l : List Int) : Int := l.foldl hashStep h
def words_Hash.f (s : ByteArray) : Option Int := if s.size ≤ 9223372036854775807 then some (hashFrom 14695981039346656037 (bytesOf s)) else none
set_option maxHeartbeats 400000 in
theorem words_Hash.calls (a0 : ByteArray) (r : Int) (w : World) (h : words_Hash.f a0 = some r) :
    Calls Tryd.prog 30 #[.string a0] w fun e w' => e = .returned (.int .u64 r) ∧ Below w.heap.size w w' := by
  unfold words_Hash.f at h
  by_cases c : a0.size ≤ 9223372036854775807
  · rw [if_pos c] at h
    have H' := Aside0.mk (Option.some.inj h)
    clear h
    have HB := Aside0.mk (Below.refl w.heap.size w)
    go_enter Tryd.func30, Tryd.ntmps30
    go_wp2_with (first
      | ((with_reducible refine gate_dst (N := 7) rfl ?_); refine conv_step (w0 := w) w.heap.size 9 52 5 rfl (N := 7) rfl _ rfl a0 rfl Tryd.underlying9 Tryd.underlying52 Tryd.underlying5 c (Below.refl _ _) (Nat.le_refl _) ?_; intro g cap w1 hg hb1 hgr hC; clear hgr hg; have HB1 := Aside0.mk hb1; have HC := Aside0.mk hC; clear hb1 hC))
    go_loopg [3, 9] a0.size (fun gk v3 v9 w' => ∃ (x3 : Int) (i : Nat), v3 = .int .u64 x3 ∧ v9 = .int .i64 i ∧ i ≤ a0.size ∧ a0.size - i ≤ gk ∧ Aside0 (hashFrom x3 ((bytesOf a0).drop i) = r) ∧ Drawn0 w1 w')
    case atStart => exact ⟨_, 0, rfl, rfl, Nat.zero_le _, Nat.le_refl _, ⟨by rw [List.drop_zero]; exact H'.out⟩, by repeat (first | exact Drawn0.refl _ | apply Drawn0.step)⟩
    case round =>
      clear H'
      obtain ⟨x3, i, rfl, rfl, hi, hgk, HA, ⟨m1, rfl⟩⟩ := hrel
      by_cases hlt : i < a0.size
      · have c1 : decide ((i : Int) < (a0.size : Int)) = true := decide_eq_true (by omega)
        have p1 : 0 ≤ (i : Int) := by omega
        have q1 : (i : Int) < (a0.size : Int) := by omega
        obtain ⟨ad, e1, hx⟩ := Kd.at_int HC.out (i : Int) p1 q1
        cases e1
        have hx : w1.cell? ⟨g, i, none⟩ = some (.int .u8 (rd (bytesOf a0) (i : Int))) := by rw [Int.toNat_natCast, add_plain] at hx; exact hx
        have hH : hashFrom (hashStep x3 (rd (bytesOf a0) (i : Int))) ((bytesOf a0).drop (i + 1)) = r := by
          have hl : i < (bytesOf a0).length := by rw [bytesOf_length]; exact hlt
          have h1 := HA.out
          rw [List.drop_eq_getElem_cons hl] at h1
          rw [show rd (bytesOf a0) (i : Int) = (bytesOf a0)[i] by unfold rd; simp [hl]]
          exact h1
        have HH := Aside0.mk hH
        clear hH HA
        replace p1 := eq_true p1
        replace q1 := eq_true q1
        have hw : IntKind.i64.wrap ((i : Int) + 1) = ((i + 1 : Nat) : Int) := by simp [IntKind.wrap, IntKind.signed, IntKind.bits]; omega
        go_wp2
        go_roundg (a0.size - (i + 1))
        case measure => omega
        case rel => exact ⟨_, i + 1, rfl, by go_num, by omega, Nat.le_refl _, HH, by repeat (first | exact Drawn0.refl _ | apply Drawn0.step)⟩
      · have c1 : decide ((i : Int) < (a0.size : Int)) = false := decide_eq_false (by omega)
        have hr : x3 = r := by
          have h1 := HA.out
          rw [List.drop_of_length_le (by rw [bytesOf_length]; omega)] at h1
          exact h1
        subst hr
        have hB2 := Aside0.mk (pw_below_drewN HB1.out m1)
        go_wp2
        go_ret
        exact ⟨rfl, hB2.out⟩
  · rw [if_neg c] at h
    cases h
end Go.Proofs.YtmbpaienbmbhfaaDoor.Print
