/- A card's words, and the card of words: as numbers. -/
import Derived.Test.YtdcmahndbmonbaaPureCards
namespace Go.Proofs.Ytdcmahndbmonbaa.Pure
open Go.RowKit Go.Proofs.Ytdcmahndbmonbaa.Print Go.Proofs.YtdcmahndbmonbaaW.PrintWords Go.Proofs.YtdcmahndbmonbaaW.PrintLast Go.Proofs.YtdcmahndbmonbaaW.PrintMore

theorem putN_add {w a b v : Nat} (hw : w < 2 ^ a) (hab : a + b ≤ 64) (hv : v < 2 ^ b) : putN w a b v = w + v * 2 ^ a := by
  have hw2 : w < 2 ^ 64 := Nat.lt_of_lt_of_le hw (Nat.pow_le_pow_right (by decide) (by omega))
  apply Nat.eq_of_testBit_eq
  intro i
  rw [putN_bit hw2 hab hv, Nat.add_comm w, Nat.mul_comm v, Nat.testBit_two_pow_mul_add v hw]
  by_cases h : a ≤ i ∧ i < a + b
  · rw [if_pos h, if_neg (by omega)]
  · rw [if_neg h]
    by_cases h1 : i < a
    · rw [if_pos h1]
    · rw [if_neg h1, Nat.testBit_lt_two_pow (Nat.lt_of_lt_of_le hv (Nat.pow_le_pow_right (by decide) (show b ≤ i - a by omega))), Nat.testBit_lt_two_pow (Nat.lt_of_lt_of_le hw (Nat.pow_le_pow_right (by decide) (by omega)))]

/-! ### writing -/
theorem wround {x4 N : List Int} {i : Nat} {r : List Int × Int} (hi : i < 9) (hN : N.length = 9) (h4 : x4.length = 8) {p w v a b : Nat} (hf : rd_T45 FL (i : Int) = ⟨(p : Int), (a : Int), (b : Int)⟩) (hp : p < 8)
    (hrd : rd x4 (p : Int) = (w : Int)) (hv : rd N (i : Int) = (v : Int)) (hw : w < 2 ^ a) (hab : a + b ≤ 64) (hb : 1 ≤ b) (hvb : v < 2 ^ b)
    (h : Ev (fun k => cards_Write.l0 k (x4.set p ((w + v * 2 ^ a : Nat) : Int)) N 9 ((i + 1 : Nat) : Int)) r) : Ev (fun k => cards_Write.l0 k x4 N 9 (i : Int)) r := by
  have hw2 : w < 2 ^ 64 := Nat.lt_of_lt_of_le hw (Nat.pow_le_pow_right (by decide) (by omega))
  have hv2 : v < 2 ^ 64 := Nat.lt_of_lt_of_le hvb (Nat.pow_le_pow_right (by decide) (by omega))
  have hput := Put_yes (w := w) (a := a) (b := b) (v := v) hw2 hv2 ⟨by omega, by omega, by omega, by omega⟩
  rw [if_pos hvb, putN_add hw hab hvb] at hput
  refine Ev.step (f := fun k => (cards_fields.f k).bind fun t121 => if (i : Int) < (t121.length : Int) then (if 0 ≤ ((rd_T45 t121 (i : Int)).f0) then (if ((rd_T45 t121 (i : Int)).f0) < (x4.length : Int) then ((words_Put.f (rd x4 ((rd_T45 t121 (i : Int)).f0)) ((rd_T45 t121 (i : Int)).f1) ((rd_T45 t121 (i : Int)).f2) (IntKind.u64.wrap (rd N (i : Int)))).bind fun bt127 => (if bt127.2 = 0 then (cards_Write.l0 k (x4.set (((rd_T45 t121 (i : Int)).f0) : Int).toNat bt127.1) N 9 (wrap64 ((i : Int) + 1))) else (some (([] : List Int), 1)))) else (none)) else (none)) else (none)) (fun k => ?_) (Ev.bind fields_ev (Ev.congr (fun k => ?_) h))
  · simp only [cards_Write.l0]
    rw [if_pos (by omega), if_pos (by omega), if_pos (by omega)]
  · have hl : FL.length = 9 := rfl
    rw [hf, hl, if_pos (by omega)]
    (try dsimp only)
    rw [if_pos (by omega), if_pos (by omega), hrd, hv, wrapu_nat hv2, hput, wrap_id (by omega) (by omega)]
    simp only [Option.bind_some, Int.toNat_natCast]
    rfl
theorem wdone {x4 N : List Int} : Ev (fun k => cards_Write.l0 k x4 N 9 ((9 : Nat) : Int)) (x4, 0) := Ev.step (f := fun _ => some (x4, 0)) (fun k => by simp only [cards_Write.l0]; rw [if_neg (by decide)]) (Ev.now _)
def enc (a0 a1 a2 a3 a4 a5 a6 a7 a8 a9 : Int) : List Int := [a0 + a1 * 256 + a2 * 16777216, a3, (a4 + 1) + (a5 + 1) * 65536 + (a6 + 1) * 4294967296 + (a7 + 1) * 281474976710656, (a8 + 1) + (a9 + 1) * 65536, 0, 0, 0, 0]
def encR (a0 a1 a2 a3 a4 a5 a6 a7 a8 a9 : Int) : List Int × Int := if rightB a0 a1 a2 a3 a4 a5 a6 a7 a8 a9 = true then (enc a0 a1 a2 a3 a4 a5 a6 a7 a8 a9, 0) else ([], 1)
theorem write_core (V : Int) (a0 a1 a2 e4 e5 e6 e7 e8 e9 : Nat) (h0 : a0 ≤ 3) (h1 : a1 ≤ 255) (h2 : a2 ≤ 2688) (h4 : e4 ≤ 96) (h5 : e5 ≤ 96) (h6 : e6 ≤ 96) (h7 : e7 ≤ 96) (h8 : e8 ≤ 96) (h9 : e9 ≤ 96) :
    Ev (fun k => cards_Write.l0 k [0, V, 0, 0, 0, 0, 0, 0] [(a0 : Int), (a1 : Int), (a2 : Int), (e4 : Int), (e5 : Int), (e6 : Int), (e7 : Int), (e8 : Int), (e9 : Int)] 9 0)
      ([((a0 + a1 * 256 + a2 * 16777216 : Nat) : Int), V, ((e4 + e5 * 65536 + e6 * 4294967296 + e7 * 281474976710656 : Nat) : Int), ((e8 + e9 * 65536 : Nat) : Int), 0, 0, 0, 0], 0) := by
  refine wround (i := 0) (by omega) rfl rfl (p := 0) (w := 0) (v := a0) (a := 0) (b := 8) rfl (by omega) rfl rfl (by decide) (by omega) (by omega) (by omega) ?_
  refine wround (i := 1) (by omega) rfl rfl (p := 0) (w := 0 + a0 * 2 ^ 0) (v := a1) (a := 8) (b := 16) rfl (by omega) rfl rfl (by omega) (by omega) (by omega) (by omega) ?_
  refine wround (i := 2) (by omega) rfl rfl (p := 0) (w := 0 + a0 * 2 ^ 0 + a1 * 2 ^ 8) (v := a2) (a := 24) (b := 32) rfl (by omega) rfl rfl (by omega) (by omega) (by omega) (by omega) ?_
  refine wround (i := 3) (by omega) rfl rfl (p := 2) (w := 0) (v := e4) (a := 0) (b := 16) rfl (by omega) rfl rfl (by decide) (by omega) (by omega) (by omega) ?_
  refine wround (i := 4) (by omega) rfl rfl (p := 2) (w := 0 + e4 * 2 ^ 0) (v := e5) (a := 16) (b := 16) rfl (by omega) rfl rfl (by omega) (by omega) (by omega) (by omega) ?_
  refine wround (i := 5) (by omega) rfl rfl (p := 2) (w := 0 + e4 * 2 ^ 0 + e5 * 2 ^ 16) (v := e6) (a := 32) (b := 16) rfl (by omega) rfl rfl (by omega) (by omega) (by omega) (by omega) ?_
  refine wround (i := 6) (by omega) rfl rfl (p := 2) (w := 0 + e4 * 2 ^ 0 + e5 * 2 ^ 16 + e6 * 2 ^ 32) (v := e7) (a := 48) (b := 16) rfl (by omega) rfl rfl (by omega) (by omega) (by omega) (by omega) ?_
  refine wround (i := 7) (by omega) rfl rfl (p := 3) (w := 0) (v := e8) (a := 0) (b := 16) rfl (by omega) rfl rfl (by decide) (by omega) (by omega) (by omega) ?_
  refine wround (i := 8) (by omega) rfl rfl (p := 3) (w := 0 + e8 * 2 ^ 0) (v := e9) (a := 16) (b := 16) rfl (by omega) rfl rfl (by omega) (by omega) (by omega) (by omega) ?_
  have e1 : 0 + a0 * 2 ^ 0 + a1 * 2 ^ 8 + a2 * 2 ^ 24 = a0 + a1 * 256 + a2 * 16777216 := by omega
  have e2 : 0 + e4 * 2 ^ 0 + e5 * 2 ^ 16 + e6 * 2 ^ 32 + e7 * 2 ^ 48 = e4 + e5 * 65536 + e6 * 4294967296 + e7 * 281474976710656 := by omega
  have e3 : 0 + e8 * 2 ^ 0 + e9 * 2 ^ 16 = e8 + e9 * 65536 := by omega
  rw [e1.symm, e2.symm, e3.symm]
  exact wdone
theorem Write_ev (a0 a1 a2 a3 a4 a5 a6 a7 a8 a9 : Int) : Ev (fun k => cards_Write.f k a0 a1 a2 a3 a4 a5 a6 a7 a8 a9) (encR a0 a1 a2 a3 a4 a5 a6 a7 a8 a9) := by
  unfold encR
  by_cases h : rightB a0 a1 a2 a3 a4 a5 a6 a7 a8 a9 = true
  · rw [if_pos h]
    obtain ⟨b0, b1, b2, b4, b5, b6, b7, b8, b9⟩ := right_bounds h
    obtain ⟨n0, rfl⟩ := Int.eq_ofNat_of_zero_le b0.1
    obtain ⟨n1, rfl⟩ := Int.eq_ofNat_of_zero_le b1.1
    obtain ⟨n2, rfl⟩ := Int.eq_ofNat_of_zero_le b2.1
    have c := write_core a3 n0 n1 n2 (a4 + 1).toNat (a5 + 1).toNat (a6 + 1).toNat (a7 + 1).toNat (a8 + 1).toNat (a9 + 1).toNat (by omega) (by omega) (by omega) (by omega) (by omega) (by omega) (by omega) (by omega) (by omega)
    have t : ∀ a : Int, -1 ≤ a ∧ a ≤ 95 → (((a + 1).toNat : Nat) : Int) = wrap64 (a + 1) := fun a ha => by rw [wrap_id (by omega) (by omega)]; omega
    have t2 : ∀ a : Int, -1 ≤ a ∧ a ≤ 95 → (((a + 1).toNat : Nat) : Int) = a + 1 := fun a ha => by omega
    have e : ([((n0 + n1 * 256 + n2 * 16777216 : Nat) : Int), a3, (((a4 + 1).toNat + (a5 + 1).toNat * 65536 + (a6 + 1).toNat * 4294967296 + (a7 + 1).toNat * 281474976710656 : Nat) : Int), (((a8 + 1).toNat + (a9 + 1).toNat * 65536 : Nat) : Int), 0, 0, 0, 0] : List Int) = enc (n0 : Int) (n1 : Int) (n2 : Int) a3 a4 a5 a6 a7 a8 a9 := by
      unfold enc
      have x2 := t2 a4 b4; have x3 := t2 a5 b5; have x4 := t2 a6 b6; have x5 := t2 a7 b7; have x6 := t2 a8 b8; have x7 := t2 a9 b9
      have q1 : ((n0 + n1 * 256 + n2 * 16777216 : Nat) : Int) = (n0 : Int) + (n1 : Int) * 256 + (n2 : Int) * 16777216 := by omega
      have q2 : (((a4 + 1).toNat + (a5 + 1).toNat * 65536 + (a6 + 1).toNat * 4294967296 + (a7 + 1).toNat * 281474976710656 : Nat) : Int) = (a4 + 1) + (a5 + 1) * 65536 + (a6 + 1) * 4294967296 + (a7 + 1) * 281474976710656 := by omega
      have q3 : (((a8 + 1).toNat + (a9 + 1).toNat * 65536 : Nat) : Int) = (a8 + 1) + (a9 + 1) * 65536 := by omega
      rw [q1, q2, q3]
    rw [e, t a4 b4, t a5 b5, t a6 b6, t a7 b7, t a8 b8, t a9 b9] at c
    refine Ev.congr (fun k => ?_) c
    unfold cards_Write.f cards_Right.f cards_numbers.f
    rw [h]
    simp only [Option.bind_some, if_true]
    rw [if_pos (by decide), if_pos (by decide)]
    rfl
  · rw [if_neg h]
    refine Ev.congr (f := fun _ => some ([], 1)) (fun k => ?_) (Ev.now _)
    unfold cards_Write.f cards_Right.f
    simp only [Option.bind_some]
    rw [if_neg h]
/-! the document's own -/
end Go.Proofs.Ytdcmahndbmonbaa.Pure
