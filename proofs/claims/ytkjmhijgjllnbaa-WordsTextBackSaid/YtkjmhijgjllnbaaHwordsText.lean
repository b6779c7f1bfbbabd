/- words.Text: a text as words. -/
import Derived.Test.YtkjmhijgjllnbaaPrint0
import Derived.WalkSpells
import Derived.StillTailTactics
import Derived.Test.YtkjmhijgjllnbaaHConv
namespace Go.Proofs.Ytkjmhijgjllnbaa.Print
open Go.RowKit Go.Proofs.YtkjmhijgjllnbaaW.PrintWords Go.Proofs.YtkjmhijgjllnbaaW.PrintLast Go.Proofs.YtkjmhijgjllnbaaW.PrintMore
def textStep (l : List Int) (i : Nat) (c : Int) : List Int := l.set (i / 8) (Go.bits .or .u64 (rd l ((i / 8 : Nat) : Int)) (shl .u64 (IntKind.u64.wrap c) ((8 * (i % 8) : Nat) : Int)))
def textFrom : List Int → Nat → List Int → List Int
  | l, _, [] => l
  | l, i, c :: r => textFrom (textStep l i c) (i + 1) r
def words_Text.f (s : ByteArray) (n : Int) : Option (List Int × Int) :=
  if n < 0 ∨ n > 64 then some ([], 1) else if (s.size : Int) > 8 * n then some ([], 2) else some (textFrom (List.replicate n.toNat 0) 0 (bytesOf s), 0)
theorem textStep_length (l : List Int) (i : Nat) (c : Int) : (textStep l i c).length = l.length := by unfold textStep; rw [List.length_set]
set_option maxHeartbeats 800000 in
theorem words_Text.calls (a0 : ByteArray) (a1 : Int) (r1 : List Int) (r2 : Int) (w : World) (h : words_Text.f a0 a1 = some (r1, r2)) :
    Calls Try.prog 15 #[.string a0, .int .i64 a1] w fun e w' => ∃ v0_ : Value, e = .returned (.tuple #[v0_, .int .i64 r2]) ∧ Kd.R (Kd.int .u64) 23 w' w.heap.size (fun _ => True) v0_ r1 ∧ Below w.heap.size w w' := by
  have HB := Aside0.mk (Below.refl w.heap.size w)
  unfold words_Text.f at h
  by_cases c1 : a1 < 0
  · rw [if_pos (.inl c1)] at h
    simp only [Option.some.injEq, Prod.mk.injEq] at h
    obtain ⟨rfl, rfl⟩ := h
    have c1b : decide (a1 < 0) = true := decide_eq_true c1
    clear c1
    go_enter Try.func15, Try.ntmps15
    go_wp2
    go_ret2
    exact ⟨_, rfl, Kd.R_nil _ _ _ _ _, by repeat (first | (with_reducible first | exact HB.out | apply below_alloc | apply pw_below_drewN | apply below_drew1) | exact HB.out)⟩
  · have c1b : decide (a1 < 0) = false := decide_eq_false c1
    by_cases c2 : a1 > 64
    · rw [if_pos (.inr c2)] at h
      simp only [Option.some.injEq, Prod.mk.injEq] at h
      obtain ⟨rfl, rfl⟩ := h
      have c2b : decide (64 < a1) = true := decide_eq_true c2
      clear c1 c2
      go_enter Try.func15, Try.ntmps15
      go_wp2
      go_ret2
      exact ⟨_, rfl, Kd.R_nil _ _ _ _ _, by repeat (first | (with_reducible first | exact HB.out | apply below_alloc | apply pw_below_drewN | apply below_drew1) | exact HB.out)⟩
    · have c2b : decide (64 < a1) = false := decide_eq_false c2
      rw [if_neg (by omega)] at h
      have hm : IntKind.i64.wrap (8 * a1) = 8 * a1 := by simp [IntKind.wrap, IntKind.signed, IntKind.bits]; omega
      by_cases c3 : (a0.size : Int) > 8 * a1
      · rw [if_pos c3] at h
        simp only [Option.some.injEq, Prod.mk.injEq] at h
        obtain ⟨rfl, rfl⟩ := h
        have c3b : decide (8 * a1 < (a0.size : Int)) = true := decide_eq_true c3
        clear c1 c2 c3
        go_enter Try.func15, Try.ntmps15
        go_wp2
        go_ret2
        exact ⟨_, rfl, Kd.R_nil _ _ _ _ _, by repeat (first | (with_reducible first | exact HB.out | apply below_alloc | apply pw_below_drewN | apply below_drew1) | exact HB.out)⟩
      · rw [if_neg c3] at h
        simp only [Option.some.injEq, Prod.mk.injEq] at h
        obtain ⟨h1, rfl⟩ := h
        have H' := Aside0.mk h1
        clear h1
        have c3b : decide (8 * a1 < (a0.size : Int)) = false := decide_eq_false c3
        have hs : a0.size ≤ 512 := by omega
        have hn0 := Aside0.mk (show 0 ≤ a1 by omega)
        have hn1 := Aside0.mk (show a1.toNat * 8 ≤ 281474976710656 by omega)
        have HN2 := Aside0.mk (show a0.size ≤ 8 * a1.toNat by omega)
        clear c1 c2 c3
        go_enter Try.func15, Try.ntmps15
        go_wp2_with (first
          | ((with_reducible refine gate_dst (N := 23) rfl ?_); refine Kd.R_make (Kd.int .u64) _ 23 rfl (N := 23) rfl 36 _ _ rfl a1 rfl rfl Try.underlying36 (.int .u64 0) 8 info23 rfl (by decide) (by omega) 0 (ok := fun _ => True) (okp := fun _ => True) rfl (fun _ hk => hk) trivial hn0.out hn1.out (Below.refl _ _) (Nat.le_refl _) ?_; intro v23 w23 ho23 hb23 hg23 hn23; clear hg23 hn23; have HO := Aside0.mk (Kd.R_lower ho23 (below_size HB.out)); have HB2 := Aside0.mk (below_step HB.out hb23); clear ho23 hb23 HB)
          | ((with_reducible refine gate_dst (N := 25) rfl ?_); refine conv_step (w0 := w) w.heap.size 9 43 5 rfl (N := 25) rfl _ rfl a0 rfl Try.underlying9 Try.underlying43 Try.underlying5 (by omega) HB2.out (below_size HB2.out) ?_; intro g cap w25 hg hb25 hgr hC; have HO5 := Aside0.mk (Kd.R_grown (Kd.R_elderB HO.out g hg) hgr (fun _ _ => by simp)); clear HO HB2; have HB5 := Aside0.mk hb25; clear hg hgr hb25; have HC := Aside0.mk hC; clear hC))
        have hHC : Aside0 (∀ i : Nat, i < a0.size → w25.cell? ⟨g, i, none⟩ = some (.int .u8 (rd (bytesOf a0) (i : Int)))) := ⟨fun i hi => by
          obtain ⟨ad, e1, hx⟩ := Kd.at_int HC.out (i : Int) (by omega) (by omega)
          cases e1
          rw [Int.toNat_natCast, add_plain] at hx
          exact hx⟩
        clear HC
        go_loopg [27] a0.size (fun gk v27 w' => ∃ (l : List Int) (i : Nat), v27 = .int .i64 i ∧ i ≤ a0.size ∧ a0.size - i ≤ gk ∧ Aside0 (l.length = a1.toNat) ∧ Aside0 (textFrom l i ((bytesOf a0).drop i) = r1) ∧ Aside0 (Kd.R (Kd.int .u64) 23 w' w.heap.size (fun k => True ∧ k ≠ g) v23 l) ∧ Aside0 (w'.heap[g]? = w25.heap[g]?) ∧ Aside0 (Below w.heap.size w w'))
        case atStart => exact ⟨_, 0, rfl, Nat.zero_le _, Nat.le_refl _, ⟨List.length_replicate⟩, ⟨by rw [List.drop_zero]; exact H'.out⟩, HO5, ⟨rfl⟩, HB5⟩
        case round =>
          clear H' HO5 HB5
          obtain ⟨l, i, rfl, hi, hgk, HL, HA, HO, HH, HB⟩ := hrel
          by_cases hlt : i < a0.size
          · have c1 : decide ((i : Int) < (a0.size : Int)) = true := decide_eq_true (by omega)
            have p1 : (0 ≤ (i : Int)) = True := eq_true (by omega)
            have q1 : ((i : Int) < (a0.size : Int)) = True := eq_true (by omega)
            have hx1 : wr.cell? ⟨g, i, none⟩ = some (.int .u8 (rd (bytesOf a0) (i : Int))) := (cell_of_block HH.out).trans (hHC.out i hlt)
            obtain ⟨c, hc⟩ : ∃ c : Int, c = rd (bytesOf a0) (i : Int) := ⟨_, rfl⟩
            rw [← hc] at hx1
            have hlen := HL.out
            have hNN := HN2.out
            obtain ⟨j, hj⟩ : ∃ j : Nat, j = i / 8 := ⟨_, rfl⟩
            obtain ⟨y, hy⟩ : ∃ y : Nat, y = 8 * (i % 8) := ⟨_, rfl⟩
            have hjl : j < l.length := by omega
            have hy64 : y < 64 := by omega
            have d1 : IntKind.i64.wrap (Int.tdiv (i : Int) 8) = (j : Int) := by rw [Int.tdiv_eq_ediv_of_nonneg (by omega)]; simp [IntKind.wrap, IntKind.signed, IntKind.bits]; omega
            have d2 : IntKind.i64.wrap (Int.tmod (i : Int) 8) = ((i % 8 : Nat) : Int) := by rw [Int.tmod_eq_emod_of_nonneg (by omega)]; simp [IntKind.wrap, IntKind.signed, IntKind.bits]; omega
            have d3 : IntKind.i64.wrap (8 * Int.tmod (i : Int) 8) = (y : Int) := by rw [Int.tmod_eq_emod_of_nonneg (by omega)]; simp [IntKind.wrap, IntKind.signed, IntKind.bits]; omega
            have d1' : IntKind.i64.wrap ((i : Int) / 8) = (j : Int) := by simp [IntKind.wrap, IntKind.signed, IntKind.bits]; omega
            have d3' : IntKind.i64.wrap (8 * ((i : Int) % 8)) = (y : Int) := by simp [IntKind.wrap, IntKind.signed, IntKind.bits]; omega
            have p2 : (0 ≤ (j : Int)) = True := eq_true (by omega)
            have p3 : (0 ≤ (y : Int)) = True := eq_true (by omega)
            have q2 : ((j : Int) < (l.length : Int)) = True := eq_true (by omega)
            have hw : IntKind.i64.wrap ((i : Int) + 1) = ((i + 1 : Nat) : Int) := by simp [IntKind.wrap, IntKind.signed, IntKind.bits]; omega
            obtain ⟨go, co, eo, gb, gl, cl, hG⟩ := Kd.R_form HO.out (by omega)
            subst eo
            have hne : Aside0 (g ≠ go) := ⟨fun e => (HO.out.1 go (by simp [Value.ownBlock])).2 e.symm⟩
            have GB := Aside0.mk gb
            clear gb gl hG
            obtain ⟨hx2, hf2⟩ := Kd.R_celln 0 HO.out (j : Int) (by omega) (by omega)
            rw [Int.toNat_natCast] at hx2 hf2
            obtain ⟨z, hz⟩ : ∃ z : Int, z = Go.bits .or .u64 (rd l (j : Int)) (IntKind.u64.wrap (IntKind.u64.wrap c * 2 ^ min y 64)) := ⟨_, rfl⟩
            have hA : textFrom (l.set j z) (i + 1) ((bytesOf a0).drop (i + 1)) = r1 := by
              have hl : i < (bytesOf a0).length := by rw [bytesOf_length]; exact hlt
              have h1 := HA.out
              rw [List.drop_eq_getElem_cons hl] at h1
              have hcc : (bytesOf a0)[i] = c := by rw [hc]; unfold rd; simp [hl]
              rw [hcc] at h1
              have h2 : textStep l i c = l.set j z := by
                unfold textStep shl
                rw [← hj, ← hy, hz, Int.toNat_natCast]
                rfl
              rw [← h2]
              exact h1
            have HA2 := Aside0.mk hA
            have Hjl := Aside0.mk hjl
            have Hy64 := Aside0.mk hy64
            have ym : min y 64 = y := by omega
            clear hA HA hc hlen hNN hj hy hjl
            go_wp2
            go_still_tail 13, (by kernel_rfl)
            change wpList _ _ _ _ _ wr.drew
            have HO3 := Aside0.mk (Kd.R_drew HO.out)
            have HB3 := Aside0.mk (below_drew HB.out)
            have HH3 := Aside0.mk (show wr.drew.heap[g]? = w25.heap[g]? from HH.out)
            generalize wr.drew = wr2 at HO3 HB3 HH3 ⊢
            clear HO HB HH hx1 hx2 hf2
            go_wp2_with (((with_reducible refine gate_store (t := 23) (p := 44) rfl ?_); obtain ⟨hx4, hf4⟩ := Kd.R_celln 0 HO3.out (j : Int) (by omega) (by have := Hjl.out; omega); rw [Int.toNat_natCast] at hx4 hf4; have HP3 := Kd.R_putg HO3.out (j : Int) z; rw [Int.toNat_natCast] at HP3; refine store_event (t := 23) (p := 44) (v := ?vo_) (w1 := (wr2.setCell ⟨go, j, none⟩ (.int .u64 z))) ?hg ?ho ?hn ?hr ?_; (case ho => rfl); (case hg => rfl); (case hn => rfl); (case hr => rw [hz]; first | (go_simp; done) | (go_simp; rfl)); intro w21 hw; have HO4 := Aside0.mk (show Kd.R (Kd.int .u64) 23 w21 w.heap.size (fun k => True ∧ k ≠ g) (.slice (some ⟨go, 0, none⟩) l.length co) (l.set j z) by rw [hw]; exact HP3.1); have HB4 := Aside0.mk (show Below w.heap.size w w21 by rw [hw]; exact below_set HB3.out GB.out); have HH4 := Aside0.mk (show w21.heap[g]? = w25.heap[g]? by rw [hw]; exact (Below.heap_setCell wr2 ⟨go, j, none⟩ _ g hne.out).trans HH3.out); clear hw HP3 HO3 HB3 HH3))
            go_roundg (a0.size - (i + 1))
            case measure => omega
            case rel => exact ⟨l.set j z, i + 1, by go_num, by omega, Nat.le_refl _, ⟨by rw [List.length_set]; exact HL.out⟩, HA2, HO4, HH4, HB4⟩
          · have c1 : decide ((i : Int) < (a0.size : Int)) = false := decide_eq_false (by omega)
            have hr : l = r1 := by
              have h1 := HA.out
              rw [List.drop_of_length_le (by rw [bytesOf_length]; omega)] at h1
              exact h1
            subst hr
            go_wp2
            go_ret2
            exact ⟨_, rfl, Kd.R_mono (by (with_reducible repeat (first | apply Kd.R_alloc | apply Kd.R_drewN | apply Kd.R_drew)); exact HO.out) (fun _ _ => trivial), by repeat (first | (with_reducible first | exact HB.out | apply below_alloc | apply pw_below_drewN | apply below_drew1) | exact HB.out)⟩
end Go.Proofs.Ytkjmhijgjllnbaa.Print
