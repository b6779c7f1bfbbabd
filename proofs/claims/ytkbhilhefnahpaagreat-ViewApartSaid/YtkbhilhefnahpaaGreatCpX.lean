/- CpBase, CpCards, CpCodec in one text. -/
import Derived.Test.YtkbhilhefnahpaaGreatPrint7
import Derived.KernelRfl
import Derived.Test.YtkbhilhefnahpaaGreatPrint0
import Derived.Test.YtkbhilhefnahpaaGreatHbitsLen64
import Derived.Test.YtkbhilhefnahpaaGreatHHands
import Derived.Test.YtkbhilhefnahpaaGreatPrint5
import Derived.Test.YtkbhilhefnahpaaGreatHcardsRight
import Derived.Test.YtkbhilhefnahpaaGreatHcardsNumbers
namespace Go.Proofs.YtkbhilhefnahpaaGreat.Cp
open Go Go.RowKit Go.Proofs.YtkbhilhefnahpaaGreat.Print Go.Proofs.YtkbhilhefnahpaaGreatW.PrintWords Go.Proofs.YtkbhilhefnahpaaGreatW.PrintLast Go.Proofs.YtkbhilhefnahpaaGreatW.PrintMore
set_option linter.unusedVariables false
set_option linter.unusedSimpArgs false
theorem zV {n : Int} (h0 : -9223372036854775808 ≤ n) (h1 : n < 9223372036854775808) : wrap64 n = n := by unfold wrap64; omega
theorem wrapu (n : Int) : IntKind.u64.wrap n = n % 18446744073709551616 := by simp [IntKind.wrap, IntKind.bits, IntKind.signed]
theorem yM {n : Int} (h0 : 0 ≤ n) (h1 : n < 18446744073709551616) : IntKind.u64.wrap n = n := by rw [wrapu]; omega
theorem ZW {n : Nat} (h1 : n < 2 ^ 64) : IntKind.u64.wrap (n : Int) = n := yM (by omega) (by omega)
theorem wfu64 {x : Int} (h : (Lit.int .u64 x).wf = true) : ∃ n : Nat, x = (n : Int) ∧ n < 2 ^ 64 := by
 have h1 : IntKind.u64.min ≤ x ∧ x ≤ IntKind.u64.max := by simpa [Lit.wf] using h
 have h2 : IntKind.u64.min = 0 := by decide
 have h3 : IntKind.u64.max = 18446744073709551615 := by decide
 exact ⟨x.toNat, by omega, by omega⟩
theorem Yz (l : List Int) (i : Nat) (h : i < l.length) : rd l (i : Int) = l[i] := by unfold rd; simp [h]

/-! ### bits -/
theorem bofInt (a : Nat) (h : a < 2 ^ 64) : (BitVec.ofInt IntKind.u64.bits (a : Int)).toNat = a := by
 show (BitVec.ofInt 64 (a : Int)).toNat = a
 rw [BitVec.ofInt_natCast, BitVec.toNat_ofNat, Nat.mod_eq_of_lt h]
theorem band {a b : Nat} (ha : a < 2 ^ 64) (hb : b < 2 ^ 64) : Go.bits .and .u64 (a : Int) (b : Int) = ((a &&& b : Nat) : Int) := by
 unfold Go.bits
 simp only [BitVec.toNat_and, bofInt a ha, bofInt b hb]
 exact ZW (Nat.and_lt_two_pow _ hb)
theorem bor {a b : Nat} (ha : a < 2 ^ 64) (hb : b < 2 ^ 64) : Go.bits .or .u64 (a : Int) (b : Int) = ((a ||| b : Nat) : Int) := by
 unfold Go.bits
 simp only [BitVec.toNat_or, bofInt a ha, bofInt b hb]
 exact ZW (Nat.or_lt_two_pow ha hb)
theorem bandnot {a b : Nat} (ha : a < 2 ^ 64) (hb : b < 2 ^ 64) : Go.bits .andNot .u64 (a : Int) (b : Int) = ((a &&& (2 ^ 64 - (b + 1)) : Nat) : Int) := by
 have hn : (~~~ (BitVec.ofInt IntKind.u64.bits (b : Int))).toNat = 2 ^ 64 - (b + 1) := by
  rw [BitVec.toNat_not, bofInt b hb]
  show 2 ^ 64 - 1 - b = _
  omega
 unfold Go.bits
 simp only [BitVec.toNat_and, bofInt a ha, hn]
 exact ZW (Nat.and_lt_two_pow _ (by omega))
theorem bits64 : IntKind.u64.bits = 64 := rfl
theorem shln (a y : Nat) (hy : y ≤ 64) : shl .u64 (a : Int) (y : Int) = (((a <<< y) % 2 ^ 64 : Nat) : Int) := by
 unfold shl
 rw [Int.toNat_natCast, bits64, Nat.min_eq_left hy, wrapu, Nat.shiftLeft_eq]
 simp
theorem shrn (a y : Nat) (hy : y ≤ 64) : shr .u64 (a : Int) (y : Int) = ((a >>> y : Nat) : Int) := by
 unfold shr
 rw [Int.toNat_natCast, bits64, Nat.min_eq_left hy, Nat.shiftRight_eq_div_pow]
 simp

/-! ### a field -/
def okF (a b : Int) : Prop := 0 ≤ a ∧ 1 ≤ b ∧ b ≤ 64 ∧ a + b ≤ 64
instance (a b : Int) : Decidable (okF a b) := by unfold okF; infer_instance
theorem ones_shr (b : Nat) (hb : b ≤ 64) : (18446744073709551615 : Nat) >>> (64 - b) = 2 ^ b - 1 := by
 apply Nat.eq_of_testBit_eq
 intro i
 rw [Nat.testBit_shiftRight, show (18446744073709551615 : Nat) = 2 ^ 64 - 1 from rfl, Nat.testBit_two_pow_sub_one, Nat.testBit_two_pow_sub_one]
 by_cases h : i < b
 ·rw [decide_eq_true h, decide_eq_true (by omega)]
 ·rw [decide_eq_false h, decide_eq_false (by omega)]
theorem mask_yes {a b : Nat} (h : okF a b) : words_mask.f (a : Int) (b : Int) = some ((2 ^ b - 1 : Nat) : Int) := by
 unfold okF at h
 unfold words_mask.f
 rw [if_neg (by omega), if_neg (by omega), if_neg (by omega), zV (n := 64 - (b : Int)) (by omega) (by omega), if_neg (by omega), if_pos (by omega), show (64 : Int) - b = ((64 - b : Nat) : Int) by omega,
  show (18446744073709551615 : Int) = ((18446744073709551615 : Nat) : Int) from rfl, shrn _ _ (by omega), ones_shr b (by omega)]
theorem mask_pos {b : Nat} (h : 1 ≤ b) : ((2 ^ b - 1 : Nat) : Int) ≠ 0 := by
 have : 2 ^ 1 ≤ 2 ^ b := Nat.pow_le_pow_right (by decide) h
 omega
theorem mask_lt {b : Nat} (h : b ≤ 64) : 2 ^ b - 1 < 2 ^ 64 := by
 have : 2 ^ b ≤ 2 ^ 64 := Nat.pow_le_pow_right (by decide) h
 omega
def getN (w a b : Nat) : Nat := (w >>> a) % 2 ^ b
theorem getN_bit (w a b i : Nat) : (getN w a b).testBit i = (decide (i < b) && w.testBit (a + i)) := by
 unfold getN
 rw [Nat.testBit_mod_two_pow, Nat.testBit_shiftRight]
theorem getN_lt (w a b : Nat) : getN w a b < 2 ^ b := Nat.mod_lt _ (Nat.two_pow_pos b)
theorem shr_lt {w : Nat} (hw : w < 2 ^ 64) (a : Nat) : w >>> a < 2 ^ 64 := by
 rw [Nat.shiftRight_eq_div_pow]
 exact Nat.lt_of_le_of_lt (Nat.div_le_self _ _) hw
theorem Get_yes {w a b : Nat} (hw : w < 2 ^ 64) (h : okF a b) : words_Get.f (w : Int) (a : Int) (b : Int) = some (((getN w a b : Nat) : Int), 0) := by
 have h' := h
 unfold okF at h'
 unfold words_Get.f
 rw [mask_yes h]
 simp only [Option.bind_some]
 rw [if_neg (mask_pos (by omega)), if_pos (by omega), shrn _ _ (by omega), band (shr_lt hw a) (mask_lt (by omega)), Nat.and_two_pow_sub_one_eq_mod]
 rfl
def putN (w a b v : Nat) : Nat := (w &&& (2 ^ 64 - (((2 ^ b - 1) <<< a) % 2 ^ 64 + 1))) ||| ((v <<< a) % 2 ^ 64)
theorem putN_bit {w a b v i : Nat} (hw : w < 2 ^ 64) (hab : a + b ≤ 64) (hv : v < 2 ^ b) : (putN w a b v).testBit i = if a ≤ i ∧ i < a + b then v.testBit (i - a) else w.testBit i := by
 unfold putN
 rw [Nat.testBit_or, Nat.testBit_and, Nat.testBit_two_pow_sub_succ (Nat.mod_lt _ (by decide)), Nat.testBit_mod_two_pow, Nat.testBit_mod_two_pow, Nat.testBit_shiftLeft, Nat.testBit_shiftLeft, Nat.testBit_two_pow_sub_one]
 have hv2 : b ≤ i - a → v.testBit (i - a) = false := fun h => Nat.testBit_lt_two_pow (Nat.lt_of_lt_of_le hv (Nat.pow_le_pow_right (by decide) h))
 have hw2 : 64 ≤ i → w.testBit i = false := fun h => Nat.testBit_lt_two_pow (Nat.lt_of_lt_of_le hw (Nat.pow_le_pow_right (by decide) h))
 by_cases h : a ≤ i ∧ i < a + b
 ·rw [if_pos h]
  have e1 : decide (i < 64) = true := decide_eq_true (by omega)
  have e2 : decide (i ≥ a) = true := decide_eq_true (by omega)
  have e3 : decide (i - a < b) = true := decide_eq_true (by omega)
  simp [e1, e2, e3]
 ·rw [if_neg h]
  by_cases h1 : a ≤ i
  ·have e3 : decide (i - a < b) = false := decide_eq_false (by omega)
   rw [hv2 (by omega), e3]
   by_cases h2 : i < 64
   ·simp [h2]
   ·simp [h2, hw2 (by omega)]
  ·have e2 : decide (i ≥ a) = false := decide_eq_false (by omega)
   rw [e2]
   by_cases h2 : i < 64
   ·simp [h2]
   ·simp [h2, hw2 (by omega)]
theorem bitLenAux_le : ∀ (f v b : Nat), v < 2 ^ f → (Lib.bitLenAux f v ≤ b ↔ v < 2 ^ b) := by
 intro f
 induction f with
 | zero =>
  intro v b h
  have := Nat.two_pow_pos b
  simp only [Lib.bitLenAux]
  omega
 | succ f ih =>
  intro v b h
  have hp := Nat.two_pow_pos b
  simp only [Lib.bitLenAux]
  by_cases hv : v = 0
  ·rw [if_pos hv]; omega
  ·rw [if_neg hv]
   cases b with
   | zero => rw [Nat.pow_zero]; omega
   | succ b =>
    have := ih (v / 2) b (by rw [Nat.pow_succ] at h; omega)
    rw [Nat.pow_succ]
    omega
theorem bitLen_le {v : Nat} (hv : v < 2 ^ 64) (b : Nat) : Lib.bitLen v ≤ b ↔ v < 2 ^ b := bitLenAux_le 64 v b hv
theorem Put_yes {w a b v : Nat} (hw : w < 2 ^ 64) (hv : v < 2 ^ 64) (h : okF a b) : words_Put.f (w : Int) (a : Int) (b : Int) (v : Int) = if v < 2 ^ b then some (((putN w a b v : Nat) : Int), 0) else some (0, 2) := by
 have h' := h
 unfold okF at h'
 unfold words_Put.f
 rw [mask_yes h]
 simp only [Option.bind_some]
 rw [if_neg (mask_pos (by omega))]
 unfold bits_Len64.f
 rw [if_pos ⟨by omega, by omega⟩, Int.toNat_natCast]
 simp only [Option.bind_some]
 by_cases hlt : v < 2 ^ b
 ·have := (bitLen_le hv b).2 hlt
  rw [if_neg (by omega), if_pos (by omega), if_pos hlt, shln _ _ (by omega), shln _ _ (by omega), bandnot hw (Nat.mod_lt _ (by decide)), bor (Nat.and_lt_two_pow _ (by omega)) (Nat.mod_lt _ (by decide))]
  rfl
 ·have : ¬ Lib.bitLen v ≤ b := fun h => hlt ((bitLen_le hv b).1 h)
  rw [if_pos (by omega), if_neg hlt]
theorem get_put {w a b v : Nat} (hw : w < 2 ^ 64) (hab : a + b ≤ 64) (hv : v < 2 ^ b) : getN (putN w a b v) a b = v := by
 apply Nat.eq_of_testBit_eq
 intro i
 rw [getN_bit, putN_bit hw hab hv]
 by_cases h : i < b
 ·rw [decide_eq_true h, if_pos (by omega), show a + i - a = i by omega]; rfl
 ·have hz : v.testBit i = false := Nat.testBit_lt_two_pow (Nat.lt_of_lt_of_le hv (Nat.pow_le_pow_right (by decide) (by omega)))
  rw [decide_eq_false h, hz, Bool.false_and]
/-! ### the document's own -/
end Go.Proofs.YtkbhilhefnahpaaGreat.Cp
namespace Go.Proofs.YtkbhilhefnahpaaGreat.Cp
open Go Go.RowKit Go.Proofs.YtkbhilhefnahpaaGreat.Print Go.Proofs.YtkbhilhefnahpaaGreatW.PrintWords Go.Proofs.YtkbhilhefnahpaaGreatW.PrintLast Go.Proofs.YtkbhilhefnahpaaGreatW.PrintMore
set_option linter.unusedVariables false
set_option linter.unusedSimpArgs false
def FL : List S105 := [⟨0, 0, 8⟩, ⟨0, 8, 16⟩, ⟨0, 24, 32⟩, ⟨2, 0, 16⟩, ⟨2, 16, 16⟩, ⟨2, 32, 16⟩, ⟨2, 48, 16⟩, ⟨3, 0, 16⟩, ⟨3, 16, 16⟩]
theorem fields_ev : Ev (fun k => cards_fields.f k) FL := Ev.of (fun k => cards_fields.mono k) (k := 10) (by kernel_rfl)
/-! ### lists alike -/
theorem Zx (l : List Int) (i : Nat) (h : i < l.length) : l.drop i = l[i] :: l.drop (i + 1) := List.drop_eq_getElem_cons h
theorem Equal_ev (l m : List Int) (h : l.length ≤ 140737488351232) : Ev (fun k => slices_Equal_uint64_uint64.f k l m) (decide (l = m)) := by
 by_cases hl : l.length = m.length
 ·have key : ∀ (d i : Nat), i + d = l.length → Ev (fun k => slices_Equal_uint64_uint64.l0 k l m (l.length : Int) (i : Int)) (decide (l.drop i = m.drop i)) := by
   intro d
   induction d with
   | zero =>
    intro i hi
    rw [List.drop_of_length_le (by omega), List.drop_of_length_le (by omega), decide_eq_true rfl]
    exact Ev.step (fun k => by simp only [slices_Equal_uint64_uint64.l0]; rw [if_neg (by omega)]) (Ev.now _)
   | succ d ih =>
    intro i hi
    by_cases e : l[i]'(by omega) = m[i]'(by omega)
    ·have := ih (i + 1) (by omega)
     have e2 : decide (l.drop i = m.drop i) = decide (l.drop (i + 1) = m.drop (i + 1)) := by
      exact decide_eq_decide.2 (by rw [Zx l i (by omega), Zx m i (by omega), e]; exact ⟨fun h => (List.cons.inj h).2, fun h => by rw [h]⟩)
     rw [e2]
     refine Ev.step (fun k => ?_) this
     simp only [slices_Equal_uint64_uint64.l0]
     rw [if_pos (by omega), if_pos (by omega), if_pos (by omega), if_pos (by omega), Yz l i (by omega), Yz m i (by omega), if_pos e, zV (by omega) (by omega)]
     rfl
    ·have e2 : decide (l.drop i = m.drop i) = false := by
      exact decide_eq_false (by rw [Zx l i (by omega), Zx m i (by omega)]; exact fun h => e (List.cons.inj h).1)
     rw [e2]
     refine Ev.step (f := fun _ => some false) (fun k => ?_) (Ev.now _)
     simp only [slices_Equal_uint64_uint64.l0]
     rw [if_pos (by omega), if_pos (by omega), if_pos (by omega), if_pos (by omega), Yz l i (by omega), Yz m i (by omega), if_neg e]
  exact Ev.congr (fun k => by unfold slices_Equal_uint64_uint64.f; rw [if_pos (by omega)]; rfl) (key l.length 0 (by omega))
 ·have : decide (l = m) = false := decide_eq_false (fun e => hl (by rw [e]))
  rw [this]
  exact Ev.congr (f := fun _ => some false) (fun k => by unfold slices_Equal_uint64_uint64.f; rw [if_neg (by omega)]) (Ev.now _)

def finB (a0 a1 a2 a9 : Int) : Bool := decide (1 ≤ a0) && (decide (a0 ≤ 3) && (fitsB a1 a2 && !oddB a9))
theorem ev_and {f : Nat → Option Bool} {b : Bool} (x : Bool) (h : Ev f b) : Ev (fun k => if x = true then f k else some false) (x && b) := by
 cases x
 ·exact Ev.congr (f := fun _ => some false) (fun k => by simp) (Ev.now _)
 ·exact Ev.congr (f := f) (fun k => by simp) h
/-- What a card that may be is made of. -/
theorem Ya {a0 a1 a2 a3 a4 a5 a6 a7 a8 a9 : Int} (h : yl a0 a1 a2 a3 a4 a5 a6 a7 a8 a9 = true) :
  (0 ≤ a0 ∧ a0 ≤ 3) ∧ (0 ≤ a1 ∧ a1 ≤ 255) ∧ (0 ≤ a2 ∧ a2 ≤ 2688) ∧ (-1 ≤ a4 ∧ a4 ≤ 95) ∧ (-1 ≤ a5 ∧ a5 ≤ 95) ∧ (-1 ≤ a6 ∧ a6 ≤ 95) ∧ (-1 ≤ a7 ∧ a7 ≤ 95) ∧ (-1 ≤ a8 ∧ a8 ≤ 95) ∧ (-1 ≤ a9 ∧ a9 ≤ 95) := by
 unfold yl at h
 by_cases h0 : a0 = 0
 ·rw [if_pos h0] at h
  unfold dirNone noneB at h
  simp at h
  omega
 ·rw [if_neg h0] at h
  by_cases k1 : a0 = 1 ∨ a0 = 2 ∨ a0 = 3
  ·rw [if_pos k1] at h
   unfold fitsB oddB at h
   simp at h
   omega
  ·rw [if_neg k1] at h
   cases h
end Go.Proofs.YtkbhilhefnahpaaGreat.Cp
namespace Go.Proofs.YtkbhilhefnahpaaGreat.Cp
open Go Go.RowKit Go.Proofs.YtkbhilhefnahpaaGreat.Print Go.Proofs.YtkbhilhefnahpaaGreatW.PrintWords Go.Proofs.YtkbhilhefnahpaaGreatW.PrintLast Go.Proofs.YtkbhilhefnahpaaGreatW.PrintMore
set_option linter.unusedVariables false
set_option linter.unusedSimpArgs false
theorem putN_add {w a b v : Nat} (hw : w < 2 ^ a) (hab : a + b ≤ 64) (hv : v < 2 ^ b) : putN w a b v = w + v * 2 ^ a := by
 have hw2 : w < 2 ^ 64 := Nat.lt_of_lt_of_le hw (Nat.pow_le_pow_right (by decide) (by omega))
 apply Nat.eq_of_testBit_eq
 intro i
 rw [putN_bit hw2 hab hv, Nat.add_comm w, Nat.mul_comm v, Nat.testBit_two_pow_mul_add v hw]
 by_cases h : a ≤ i ∧ i < a + b
 ·rw [if_pos h, if_neg (by omega)]
 ·rw [if_neg h]
  by_cases h1 : i < a
  ·rw [if_pos h1]
  ·rw [if_neg h1, Nat.testBit_lt_two_pow (Nat.lt_of_lt_of_le hv (Nat.pow_le_pow_right (by decide) (show b ≤ i - a by omega))), Nat.testBit_lt_two_pow (Nat.lt_of_lt_of_le hw (Nat.pow_le_pow_right (by decide) (by omega)))]

/-! ### writing -/
theorem Yq {x4 N : List Int} {i : Nat} {r : List Int × Int} (hi : i < 9) (hN : N.length = 9) (h4 : x4.length = 8) {p w v a b : Nat} (hf : zo FL (i : Int) = ⟨(p : Int), (a : Int), (b : Int)⟩) (hp : p < 8)
  (hrd : rd x4 (p : Int) = (w : Int)) (hv : rd N (i : Int) = (v : Int)) (hw : w < 2 ^ a) (hab : a + b ≤ 64) (hb : 1 ≤ b) (hvb : v < 2 ^ b)
  (h : Ev (fun k => cards_Write.l0 k (x4.set p ((w + v * 2 ^ a : Nat) : Int)) N 9 ((i + 1 : Nat) : Int)) r) : Ev (fun k => cards_Write.l0 k x4 N 9 (i : Int)) r := by
 have hw2 : w < 2 ^ 64 := Nat.lt_of_lt_of_le hw (Nat.pow_le_pow_right (by decide) (by omega))
 have hv2 : v < 2 ^ 64 := Nat.lt_of_lt_of_le hvb (Nat.pow_le_pow_right (by decide) (by omega))
 have hput := Put_yes (w := w) (a := a) (b := b) (v := v) hw2 hv2 ⟨by omega, by omega, by omega, by omega⟩
 rw [if_pos hvb, putN_add hw hab hvb] at hput
 refine Ev.step (f := fun k => (cards_fields.f k).bind fun t121 => if (i : Int) < (t121.length : Int) then (if 0 ≤ ((zo t121 (i : Int)).f0) then (if ((zo t121 (i : Int)).f0) < (x4.length : Int) then ((words_Put.f (rd x4 ((zo t121 (i : Int)).f0)) ((zo t121 (i : Int)).f1) ((zo t121 (i : Int)).f2) (IntKind.u64.wrap (rd N (i : Int)))).bind fun bt127 => (if bt127.2 = 0 then (cards_Write.l0 k (x4.set (((zo t121 (i : Int)).f0) : Int).toNat bt127.1) N 9 (wrap64 ((i : Int) + 1))) else (some (([] : List Int), 1)))) else (none)) else (none)) else (none)) (fun k => ?_) (Ev.bind fields_ev (Ev.congr (fun k => ?_) h))
 ·simp only [cards_Write.l0]
  rw [if_pos (by omega), if_pos (by omega), if_pos (by omega)]
 ·have hl : FL.length = 9 := rfl
  rw [hf, hl, if_pos (by omega)]
  (try dsimp only)
  rw [if_pos (by omega), if_pos (by omega), hrd, hv, ZW hv2, hput, zV (by omega) (by omega)]
  simp only [Option.bind_some, Int.toNat_natCast]
  rfl
theorem wdone {x4 N : List Int} : Ev (fun k => cards_Write.l0 k x4 N 9 ((9 : Nat) : Int)) (x4, 0) := Ev.step (f := fun _ => some (x4, 0)) (fun k => by simp only [cards_Write.l0]; rw [if_neg (by decide)]) (Ev.now _)
def enc (a0 a1 a2 a3 a4 a5 a6 a7 a8 a9 : Int) : List Int := [a0 + a1 * 256 + a2 * 16777216, a3, (a4 + 1) + (a5 + 1) * 65536 + (a6 + 1) * 4294967296 + (a7 + 1) * 281474976710656, (a8 + 1) + (a9 + 1) * 65536, 0, 0, 0, 0]
def encR (a0 a1 a2 a3 a4 a5 a6 a7 a8 a9 : Int) : List Int × Int := if yl a0 a1 a2 a3 a4 a5 a6 a7 a8 a9 = true then (enc a0 a1 a2 a3 a4 a5 a6 a7 a8 a9, 0) else ([], 1)
theorem write_core (V : Int) (a0 a1 a2 e4 e5 e6 e7 e8 e9 : Nat) (h0 : a0 ≤ 3) (h1 : a1 ≤ 255) (h2 : a2 ≤ 2688) (h4 : e4 ≤ 96) (h5 : e5 ≤ 96) (h6 : e6 ≤ 96) (h7 : e7 ≤ 96) (h8 : e8 ≤ 96) (h9 : e9 ≤ 96) :
  Ev (fun k => cards_Write.l0 k [0, V, 0, 0, 0, 0, 0, 0] [(a0 : Int), (a1 : Int), (a2 : Int), (e4 : Int), (e5 : Int), (e6 : Int), (e7 : Int), (e8 : Int), (e9 : Int)] 9 0)
   ([((a0 + a1 * 256 + a2 * 16777216 : Nat) : Int), V, ((e4 + e5 * 65536 + e6 * 4294967296 + e7 * 281474976710656 : Nat) : Int), ((e8 + e9 * 65536 : Nat) : Int), 0, 0, 0, 0], 0) := by
 refine Yq (i := 0) (by omega) rfl rfl (p := 0) (w := 0) (v := a0) (a := 0) (b := 8) rfl (by omega) rfl rfl (by decide) (by omega) (by omega) (by omega) ?_
 refine Yq (i := 1) (by omega) rfl rfl (p := 0) (w := 0 + a0 * 2 ^ 0) (v := a1) (a := 8) (b := 16) rfl (by omega) rfl rfl (by omega) (by omega) (by omega) (by omega) ?_
 refine Yq (i := 2) (by omega) rfl rfl (p := 0) (w := 0 + a0 * 2 ^ 0 + a1 * 2 ^ 8) (v := a2) (a := 24) (b := 32) rfl (by omega) rfl rfl (by omega) (by omega) (by omega) (by omega) ?_
 refine Yq (i := 3) (by omega) rfl rfl (p := 2) (w := 0) (v := e4) (a := 0) (b := 16) rfl (by omega) rfl rfl (by decide) (by omega) (by omega) (by omega) ?_
 refine Yq (i := 4) (by omega) rfl rfl (p := 2) (w := 0 + e4 * 2 ^ 0) (v := e5) (a := 16) (b := 16) rfl (by omega) rfl rfl (by omega) (by omega) (by omega) (by omega) ?_
 refine Yq (i := 5) (by omega) rfl rfl (p := 2) (w := 0 + e4 * 2 ^ 0 + e5 * 2 ^ 16) (v := e6) (a := 32) (b := 16) rfl (by omega) rfl rfl (by omega) (by omega) (by omega) (by omega) ?_
 refine Yq (i := 6) (by omega) rfl rfl (p := 2) (w := 0 + e4 * 2 ^ 0 + e5 * 2 ^ 16 + e6 * 2 ^ 32) (v := e7) (a := 48) (b := 16) rfl (by omega) rfl rfl (by omega) (by omega) (by omega) (by omega) ?_
 refine Yq (i := 7) (by omega) rfl rfl (p := 3) (w := 0) (v := e8) (a := 0) (b := 16) rfl (by omega) rfl rfl (by decide) (by omega) (by omega) (by omega) ?_
 refine Yq (i := 8) (by omega) rfl rfl (p := 3) (w := 0 + e8 * 2 ^ 0) (v := e9) (a := 16) (b := 16) rfl (by omega) rfl rfl (by omega) (by omega) (by omega) (by omega) ?_
 have e1 : 0 + a0 * 2 ^ 0 + a1 * 2 ^ 8 + a2 * 2 ^ 24 = a0 + a1 * 256 + a2 * 16777216 := by omega
 have e2 : 0 + e4 * 2 ^ 0 + e5 * 2 ^ 16 + e6 * 2 ^ 32 + e7 * 2 ^ 48 = e4 + e5 * 65536 + e6 * 4294967296 + e7 * 281474976710656 := by omega
 have e3 : 0 + e8 * 2 ^ 0 + e9 * 2 ^ 16 = e8 + e9 * 65536 := by omega
 rw [e1.symm, e2.symm, e3.symm]
 exact wdone
theorem Write_ev (a0 a1 a2 a3 a4 a5 a6 a7 a8 a9 : Int) : Ev (fun k => cards_Write.f k a0 a1 a2 a3 a4 a5 a6 a7 a8 a9) (encR a0 a1 a2 a3 a4 a5 a6 a7 a8 a9) := by
 unfold encR
 by_cases h : yl a0 a1 a2 a3 a4 a5 a6 a7 a8 a9 = true
 ·rw [if_pos h]
  obtain ⟨b0, b1, b2, b4, b5, b6, b7, b8, b9⟩ := Ya h
  obtain ⟨n0, rfl⟩ := Int.eq_ofNat_of_zero_le b0.1
  obtain ⟨n1, rfl⟩ := Int.eq_ofNat_of_zero_le b1.1
  obtain ⟨n2, rfl⟩ := Int.eq_ofNat_of_zero_le b2.1
  have c := write_core a3 n0 n1 n2 (a4 + 1).toNat (a5 + 1).toNat (a6 + 1).toNat (a7 + 1).toNat (a8 + 1).toNat (a9 + 1).toNat (by omega) (by omega) (by omega) (by omega) (by omega) (by omega) (by omega) (by omega) (by omega)
  have t : ∀ a : Int, -1 ≤ a ∧ a ≤ 95 → (((a + 1).toNat : Nat) : Int) = wrap64 (a + 1) := fun a ha => by rw [zV (by omega) (by omega)]; omega
  have t2 : ∀ a : Int, -1 ≤ a ∧ a ≤ 95 → (((a + 1).toNat : Nat) : Int) = a + 1 := fun a ha => by omega
  have e : ([((n0 + n1 * 256 + n2 * 16777216 : Nat) : Int), a3, (((a4 + 1).toNat + (a5 + 1).toNat * 65536 + (a6 + 1).toNat * 4294967296 + (a7 + 1).toNat * 281474976710656 : Nat) : Int), (((a8 + 1).toNat + (a9 + 1).toNat * 65536 : Nat) : Int), 0, 0, 0, 0] : List Int) = enc (n0 : Int) (n1 : Int) (n2 : Int) a3 a4 a5 a6 a7 a8 a9 := by
   unfold enc
   have x2 := t2 a4 b4; have x3 := t2 a5 b5; have x4 := t2 a6 b6; have x5 := t2 a7 b7; have x6 := t2 a8 b8; have x7 := t2 a9 b9
   have q1 : ((n0 + n1 * 256 + n2 * 16777216 : Nat) : Int) = (n0 : Int) + (n1 : Int) * 256 + (n2 : Int) * 16777216 := by omega
   have q2 : (((a4 + 1).toNat + (a5 + 1).toNat * 65536 + (a6 + 1).toNat * 4294967296 + (a7 + 1).toNat * 281474976710656 : Nat) : Int) = (a4 + 1) + (a5 + 1) * 65536 + (a6 + 1) * 4294967296 + (a7 + 1) * 281474976710656 := by omega
   have q3 : (((a8 + 1).toNat + (a9 + 1).toNat * 65536 : Nat) : Int) = (a8 + 1) + (a9 + 1) * 65536 := by omega
   rw [q1, q2, q3]
  rw [e, t a4 b4, t a5 b5, t a6 b6, t a7 b7, t a8 b8, t a9 b9] at c
  refine Ev.congr (fun k => ?_) c
  unfold cards_Write.f cards_Right.f cards_numbers.f
  rw [h]
  simp only [Option.bind_some, if_true]
  rw [if_pos (by decide), if_pos (by decide)]
  rfl
 ·rw [if_neg h]
  refine Ev.congr (f := fun _ => some ([], 1)) (fun k => ?_) (Ev.now _)
  unfold cards_Write.f cards_Right.f
  simp only [Option.bind_some]
  rw [if_neg h]
end Go.Proofs.YtkbhilhefnahpaaGreat.Cp
