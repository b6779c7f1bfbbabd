/- CpReads, CpRef in one text. -/
import Derived.Test.YtkbhilhefnahpaaGreatCpX
import Derived.Test.YtkbhilhefnahpaaGreatPrint8
import Derived.Test.YtkbhilhefnahpaaGreatPrint12
import Derived.Test.YtkbhilhefnahpaaGreatPrint11
import Derived.Test.YtkbhilhefnahpaaGreatPrint10
import Derived.Test.YtkbhilhefnahpaaGreatPrint9
namespace Go.Proofs.YtkbhilhefnahpaaGreat.Cp
open Go Go.RowKit Go.Proofs.YtkbhilhefnahpaaGreat.Print Go.Proofs.YtkbhilhefnahpaaGreatW.PrintWords Go.Proofs.YtkbhilhefnahpaaGreatW.PrintLast Go.Proofs.YtkbhilhefnahpaaGreatW.PrintMore
set_option linter.unusedVariables false
set_option linter.unusedSimpArgs false
abbrev C11 := Int × Int × Int × Int × Int × Int × Int × Int × Int × Int × Int
def bad : C11 := (0, 0, 0, 0, 0, 0, 0, 0, 0, 0, 15)
def outR (l : List Int) (a0 a1 a2 a3 a4 a5 a6 a7 a8 a9 : Int) : C11 := if yl a0 a1 a2 a3 a4 a5 a6 a7 a8 a9 = true ∧ enc a0 a1 a2 a3 a4 a5 a6 a7 a8 a9 = l then (a0, a1, a2, a3, a4, a5, a6, a7, a8, a9, 0) else bad
theorem Zy (w a b : Nat) : getN w a b = w / 2 ^ a % 2 ^ b := by unfold getN; rw [Nat.shiftRight_eq_div_pow]
theorem Yx {l v : List Int} {i : Nat} {r : C11} (hi : i < 9) (hl : l.length = 8) (hv : v.length < 100) {p w a b : Nat} (hf : zo FL (i : Int) = ⟨(p : Int), (a : Int), (b : Int)⟩) (hp : p < 8)
  (hrd : rd l (p : Int) = (w : Int)) (hw : w < 2 ^ 64) (hab : a + b ≤ 64) (hb : 1 ≤ b) (hb2 : b ≤ 32)
  (h : Ev (fun k => cards_Read.l0 k l (v ++ [((getN w a b : Nat) : Int)]) FL 9 ((i + 1 : Nat) : Int)) r) : Ev (fun k => cards_Read.l0 k l v FL 9 (i : Int)) r := by
 have hget := Get_yes (w := w) (a := a) (b := b) hw ⟨by omega, by omega, by omega, by omega⟩
 have hlt : getN w a b < 4294967296 := Nat.lt_of_lt_of_le (getN_lt w a b) (Nat.le_trans (Nat.pow_le_pow_right (by decide) hb2) (Nat.le_refl _))
 have hFL : (FL.length : Int) = 9 := rfl
 refine Ev.step (fun k => ?_) h
 simp only [cards_Read.l0]
 rw [if_pos (by omega), if_pos (by omega), if_pos (by omega), hf]
 dsimp only
 rw [if_pos (by omega), if_pos (by omega), hrd, hget]
 simp only [Option.bind_some]
 rw [if_pos (by omega), zV (n := (i : Int) + 1) (by omega) (by omega), zV (n := ((getN w a b : Nat) : Int)) (by omega) (by omega)]
 rfl
theorem rfinish (l v : List Int) (a0 a1 a2 a3 a4 a5 a6 a7 a8 a9 : Int) : Ev (fun k => cards_Read.l1 k l v 5 a0 a1 a2 a3 a4 a5 a6 a7 a8 a9) (outR l a0 a1 a2 a3 a4 a5 a6 a7 a8 a9) := by
 refine Ev.step (f := fun k => (cards_Write.f k a0 a1 a2 a3 a4 a5 a6 a7 a8 a9).bind fun bt152 => (if bt152.2 = 0 then ((slices_Equal_uint64_uint64.f k bt152.1 l).bind fun t156 => (if t156 = true then (some (a0, a1, a2, a3, a4, a5, a6, a7, a8, a9, 0)) else (some bad))) else (some bad))) (fun k => ?_) (Ev.bind (Write_ev a0 a1 a2 a3 a4 a5 a6 a7 a8 a9) ?_)
 ·simp only [cards_Read.l1]
  rw [if_neg (by decide)]
  rfl
 ·unfold encR outR
  by_cases h : yl a0 a1 a2 a3 a4 a5 a6 a7 a8 a9 = true
  ·rw [if_pos h]
   have hE := Equal_ev (enc a0 a1 a2 a3 a4 a5 a6 a7 a8 a9) l (by unfold enc; simp)
   by_cases e : enc a0 a1 a2 a3 a4 a5 a6 a7 a8 a9 = l
   ·rw [decide_eq_true e] at hE
    have e2 : (if yl a0 a1 a2 a3 a4 a5 a6 a7 a8 a9 = true ∧ enc a0 a1 a2 a3 a4 a5 a6 a7 a8 a9 = l then ((a0, a1, a2, a3, a4, a5, a6, a7, a8, a9, 0) : C11) else bad) = (a0, a1, a2, a3, a4, a5, a6, a7, a8, a9, 0) := if_pos ⟨h, e⟩
    rw [e2]
    refine Ev.congr (f := fun k => (slices_Equal_uint64_uint64.f k (enc a0 a1 a2 a3 a4 a5 a6 a7 a8 a9) l).bind fun t156 => (if t156 = true then (some (a0, a1, a2, a3, a4, a5, a6, a7, a8, a9, 0)) else (some bad))) (fun k => if_pos rfl) (Ev.bind hE ?_)
    exact Ev.congr (f := fun _ => some _) (fun k => if_pos rfl) (Ev.now _)
   ·rw [decide_eq_false e] at hE
    have e2 : (if yl a0 a1 a2 a3 a4 a5 a6 a7 a8 a9 = true ∧ enc a0 a1 a2 a3 a4 a5 a6 a7 a8 a9 = l then ((a0, a1, a2, a3, a4, a5, a6, a7, a8, a9, 0) : C11) else bad) = bad := if_neg (fun g => e g.2)
    rw [e2]
    refine Ev.congr (f := fun k => (slices_Equal_uint64_uint64.f k (enc a0 a1 a2 a3 a4 a5 a6 a7 a8 a9) l).bind fun t156 => (if t156 = true then (some (a0, a1, a2, a3, a4, a5, a6, a7, a8, a9, 0)) else (some bad))) (fun k => if_pos rfl) (Ev.bind hE ?_)
    exact Ev.congr (f := fun _ => some bad) (fun k => if_neg (by decide)) (Ev.now _)
  ·rw [if_neg h, if_neg (fun g => h g.1)]
   exact Ev.congr (f := fun _ => some bad) (fun k => by simp) (Ev.now _)
theorem rset0 {l : List Int} {v : List Int} {x : Int} {r : C11} {a0 a1 a2 a3 a4 a5 a6 a7 a8 a9 : Int} (hv : v.length = 9) (hx : rd v 3 = x) (h0 : 0 ≤ x) (h1 : x < 4294967296) (h : Ev (fun k => cards_Read.l1 k l v 1 a0 a1 a2 a3 (x - 1) a5 a6 a7 a8 a9) r) : Ev (fun k => cards_Read.l1 k l v 0 a0 a1 a2 a3 a4 a5 a6 a7 a8 a9) r := by
 refine Ev.step (fun k => ?_) h
 simp only [cards_Read.l1]
 rw [if_pos (by decide), show wrap64 (3 + 0) = 3 by kernel_rfl, if_pos (by decide), if_pos (by omega), hx, zV (n := x - 1) (by omega) (by omega)]
 simp [show wrap64 1 = 1 by kernel_rfl]
theorem rset1 {l : List Int} {v : List Int} {x : Int} {r : C11} {a0 a1 a2 a3 a4 a5 a6 a7 a8 a9 : Int} (hv : v.length = 9) (hx : rd v 4 = x) (h0 : 0 ≤ x) (h1 : x < 4294967296) (h : Ev (fun k => cards_Read.l1 k l v 2 a0 a1 a2 a3 a4 (x - 1) a6 a7 a8 a9) r) : Ev (fun k => cards_Read.l1 k l v 1 a0 a1 a2 a3 a4 a5 a6 a7 a8 a9) r := by
 refine Ev.step (fun k => ?_) h
 simp only [cards_Read.l1]
 rw [if_pos (by decide), show wrap64 (3 + 1) = 4 by kernel_rfl, if_pos (by decide), if_pos (by omega), hx, zV (n := x - 1) (by omega) (by omega)]
 simp [show wrap64 2 = 2 by kernel_rfl]
theorem rset2 {l : List Int} {v : List Int} {x : Int} {r : C11} {a0 a1 a2 a3 a4 a5 a6 a7 a8 a9 : Int} (hv : v.length = 9) (hx : rd v 5 = x) (h0 : 0 ≤ x) (h1 : x < 4294967296) (h : Ev (fun k => cards_Read.l1 k l v 3 a0 a1 a2 a3 a4 a5 (x - 1) a7 a8 a9) r) : Ev (fun k => cards_Read.l1 k l v 2 a0 a1 a2 a3 a4 a5 a6 a7 a8 a9) r := by
 refine Ev.step (fun k => ?_) h
 simp only [cards_Read.l1]
 rw [if_pos (by decide), show wrap64 (3 + 2) = 5 by kernel_rfl, if_pos (by decide), if_pos (by omega), hx, zV (n := x - 1) (by omega) (by omega)]
 simp [show wrap64 3 = 3 by kernel_rfl]
theorem rset3 {l : List Int} {v : List Int} {x : Int} {r : C11} {a0 a1 a2 a3 a4 a5 a6 a7 a8 a9 : Int} (hv : v.length = 9) (hx : rd v 6 = x) (h0 : 0 ≤ x) (h1 : x < 4294967296) (h : Ev (fun k => cards_Read.l1 k l v 4 a0 a1 a2 a3 a4 a5 a6 (x - 1) a8 a9) r) : Ev (fun k => cards_Read.l1 k l v 3 a0 a1 a2 a3 a4 a5 a6 a7 a8 a9) r := by
 refine Ev.step (fun k => ?_) h
 simp only [cards_Read.l1]
 rw [if_pos (by decide), show wrap64 (3 + 3) = 6 by kernel_rfl, if_pos (by decide), if_pos (by omega), hx, zV (n := x - 1) (by omega) (by omega)]
 simp [show wrap64 4 = 4 by kernel_rfl]
theorem rset4 {l : List Int} {v : List Int} {x : Int} {r : C11} {a0 a1 a2 a3 a4 a5 a6 a7 a8 a9 : Int} (hv : v.length = 9) (hx : rd v 7 = x) (h0 : 0 ≤ x) (h1 : x < 4294967296) (h : Ev (fun k => cards_Read.l1 k l v 5 a0 a1 a2 a3 a4 a5 a6 a7 (x - 1) a9) r) : Ev (fun k => cards_Read.l1 k l v 4 a0 a1 a2 a3 a4 a5 a6 a7 a8 a9) r := by
 refine Ev.step (fun k => ?_) h
 simp only [cards_Read.l1]
 rw [if_pos (by decide), show wrap64 (3 + 4) = 7 by kernel_rfl, if_pos (by decide), if_pos (by omega), hx, zV (n := x - 1) (by omega) (by omega)]
 simp [show wrap64 5 = 5 by kernel_rfl]
theorem read_tail {l : List Int} (hl : l.length = 8) (n0 n1 n2 n4 n5 n6 n7 n8 n9 : Int) (q4 : 0 ≤ n4 ∧ n4 < 4294967296) (q5 : 0 ≤ n5 ∧ n5 < 4294967296) (q6 : 0 ≤ n6 ∧ n6 < 4294967296) (q7 : 0 ≤ n7 ∧ n7 < 4294967296) (q8 : 0 ≤ n8 ∧ n8 < 4294967296) (q9 : 0 ≤ n9 ∧ n9 < 4294967296) :
  Ev (fun k => cards_Read.l0 k l [n0, n1, n2, n4, n5, n6, n7, n8, n9] FL 9 9) (outR l n0 n1 n2 (rd l 1) (n4 - 1) (n5 - 1) (n6 - 1) (n7 - 1) (n8 - 1) (n9 - 1)) := by
 have f5 := rfinish l [n0, n1, n2, n4, n5, n6, n7, n8, n9] n0 n1 n2 (rd l 1) (n4 - 1) (n5 - 1) (n6 - 1) (n7 - 1) (n8 - 1) (n9 - 1)
 have f4 := rset4 (a8 := 0) rfl (x := n8) rfl (by omega) (by omega) f5
 have f3 := rset3 (a7 := 0) rfl (x := n7) rfl (by omega) (by omega) f4
 have f2 := rset2 (a6 := 0) rfl (x := n6) rfl (by omega) (by omega) f3
 have f1 := rset1 (a5 := 0) rfl (x := n5) rfl (by omega) (by omega) f2
 have f0 := rset0 (a4 := 0) rfl (x := n4) rfl (by omega) (by omega) f1
 have hL : ([n0, n1, n2, n4, n5, n6, n7, n8, n9].length : Int) - 1 = 8 := by simp
 have e8 : wrap64 (([n0, n1, n2, n4, n5, n6, n7, n8, n9].length : Int) - 1) = 8 := by
  rw [hL]
  exact zV (by omega) (by omega)
 have r8 : rd [n0, n1, n2, n4, n5, n6, n7, n8, n9] 8 = n9 := rfl
 have e9 : wrap64 (rd [n0, n1, n2, n4, n5, n6, n7, n8, n9] 8 - 1) = n9 - 1 := by rw [r8]; exact zV (by omega) (by omega)
 have g0 : (0 : Int) < ([n0, n1, n2, n4, n5, n6, n7, n8, n9].length : Int) := by simp
 have g1 : (1 : Int) < ([n0, n1, n2, n4, n5, n6, n7, n8, n9].length : Int) := by simp
 have g2 : (2 : Int) < ([n0, n1, n2, n4, n5, n6, n7, n8, n9].length : Int) := by simp
 have g8 : (8 : Int) < ([n0, n1, n2, n4, n5, n6, n7, n8, n9].length : Int) := by simp
 have r0 : rd [n0, n1, n2, n4, n5, n6, n7, n8, n9] 0 = n0 := rfl
 have r1 : rd [n0, n1, n2, n4, n5, n6, n7, n8, n9] 1 = n1 := rfl
 have r2 : rd [n0, n1, n2, n4, n5, n6, n7, n8, n9] 2 = n2 := rfl
 refine Ev.step (fun k => ?_) f0
 simp only [cards_Read.l0]
 rw [if_neg (by decide), if_pos g0, if_pos g1, if_pos g2, if_pos (by omega), e8, if_pos (by decide), if_pos g8, e9, r0, r1, r2]
theorem YT {n : Nat} (h : n < 2 ^ 32) : 0 ≤ (n : Int) ∧ (n : Int) < 4294967296 := by omega
theorem Read_ev {l : List Int} (hl : l.length = 8) {w0 w2 w3 : Nat} (h0 : rd l 0 = (w0 : Int)) (h2 : rd l 2 = (w2 : Int)) (h3 : rd l 3 = (w3 : Int)) (b0 : w0 < 2 ^ 64) (b2 : w2 < 2 ^ 64) (b3 : w3 < 2 ^ 64) :
  Ev (fun k => cards_Read.f k l) (outR l ((getN w0 0 8 : Nat) : Int) ((getN w0 8 16 : Nat) : Int) ((getN w0 24 32 : Nat) : Int) (rd l 1) (((getN w2 0 16 : Nat) : Int) - 1) (((getN w2 16 16 : Nat) : Int) - 1) (((getN w2 32 16 : Nat) : Int) - 1) (((getN w2 48 16 : Nat) : Int) - 1) (((getN w3 0 16 : Nat) : Int) - 1) (((getN w3 16 16 : Nat) : Int) - 1)) := by
 refine Ev.congr (f := fun k => (cards_fields.f k).bind fun t134 => (cards_Read.l0 k l ([] : List Int) t134 (t134.length : Int) 0)) (fun k => by unfold cards_Read.f; rw [if_pos (by omega)]) (Ev.bind fields_ev ?_)
 have g := fun (w a b : Nat) (hb : b ≤ 32) => (Nat.lt_of_lt_of_le (getN_lt w a b) (Nat.pow_le_pow_right (by decide) hb) : getN w a b < 2 ^ 32)
 have q4 := g w2 0 16 (by omega)
 have q5 := g w2 16 16 (by omega)
 have q6 := g w2 32 16 (by omega)
 have q7 := g w2 48 16 (by omega)
 have q8 := g w3 0 16 (by omega)
 have q9 := g w3 16 16 (by omega)
 show Ev (fun k => cards_Read.l0 k l [] FL 9 ((0 : Nat) : Int)) _
 refine Yx (i := 0) (by omega) hl (by simp) (p := 0) (w := w0) (a := 0) (b := 8) rfl (by omega) h0 b0 (by omega) (by omega) (by omega) ?_
 refine Yx (i := 1) (by omega) hl (by simp) (p := 0) (w := w0) (a := 8) (b := 16) rfl (by omega) h0 b0 (by omega) (by omega) (by omega) ?_
 refine Yx (i := 2) (by omega) hl (by simp) (p := 0) (w := w0) (a := 24) (b := 32) rfl (by omega) h0 b0 (by omega) (by omega) (by omega) ?_
 refine Yx (i := 3) (by omega) hl (by simp) (p := 2) (w := w2) (a := 0) (b := 16) rfl (by omega) h2 b2 (by omega) (by omega) (by omega) ?_
 refine Yx (i := 4) (by omega) hl (by simp) (p := 2) (w := w2) (a := 16) (b := 16) rfl (by omega) h2 b2 (by omega) (by omega) (by omega) ?_
 refine Yx (i := 5) (by omega) hl (by simp) (p := 2) (w := w2) (a := 32) (b := 16) rfl (by omega) h2 b2 (by omega) (by omega) (by omega) ?_
 refine Yx (i := 6) (by omega) hl (by simp) (p := 2) (w := w2) (a := 48) (b := 16) rfl (by omega) h2 b2 (by omega) (by omega) (by omega) ?_
 refine Yx (i := 7) (by omega) hl (by simp) (p := 3) (w := w3) (a := 0) (b := 16) rfl (by omega) h3 b3 (by omega) (by omega) (by omega) ?_
 refine Yx (i := 8) (by omega) hl (by simp) (p := 3) (w := w3) (a := 16) (b := 16) rfl (by omega) h3 b3 (by omega) (by omega) (by omega) ?_
 simp only [List.nil_append, List.cons_append]
 exact read_tail hl _ _ _ _ _ _ _ _ _ (YT q4) (YT q5) (YT q6) (YT q7) (YT q8) (YT q9)
theorem Read_no {l : List Int} (hl : l.length ≠ 8) : Ev (fun k => cards_Read.f k l) bad := Ev.congr (f := fun _ => some bad) (fun k => by unfold cards_Read.f; rw [if_neg (by omega)]; rfl) (Ev.now _)

/-! the document's own -/
theorem tm (w m : Nat) {M : Int} (hM : M = (m : Int)) (hm : 0 < m) (hm2 : m ≤ 4294967296) : wrap64 (Int.tmod (w : Int) M) = ((w % m : Nat) : Int) := by
 subst hM
 have := Nat.mod_lt w hm
 rw [Int.tmod_eq_emod_of_nonneg (by omega), ← Int.natCast_emod, zV (by omega) (by omega)]
theorem td (w m : Nat) {M : Int} (hM : M = (m : Int)) (hw : w < 2 ^ 64) : IntKind.u64.wrap (Int.tdiv (w : Int) M) = ((w / m : Nat) : Int) := by
 subst hM
 have := Nat.div_le_self w m
 rw [Int.tdiv_eq_ediv_of_nonneg (by omega), ← Int.natCast_ediv, ZW (by omega)]
end Go.Proofs.YtkbhilhefnahpaaGreat.Cp
namespace Go.Proofs.YtkbhilhefnahpaaGreat.Cp
open Go Go.RowKit Go.Proofs.YtkbhilhefnahpaaGreat.Print Go.Proofs.YtkbhilhefnahpaaGreatW.PrintWords Go.Proofs.YtkbhilhefnahpaaGreatW.PrintLast Go.Proofs.YtkbhilhefnahpaaGreatW.PrintMore
set_option linter.unusedVariables false
set_option linter.unusedSimpArgs false
theorem Same_ev (l m : List Int) (h : l.length ≤ 140737488351232) : Ev (fun k => escritoireref01_Same.f k l m) (decide (l = m)) := by
 by_cases hl : l.length = m.length
 ·have key : ∀ (d i : Nat), i + d = l.length → Ev (fun k => escritoireref01_Same.l0 k l m (i : Int)) (decide (l.drop i = m.drop i)) := by
   intro d
   induction d with
   | zero =>
    intro i hi
    rw [List.drop_of_length_le (by omega), List.drop_of_length_le (by omega), decide_eq_true rfl]
    exact Ev.step (fun k => by simp only [escritoireref01_Same.l0]; rw [if_neg (by omega)]) (Ev.now _)
   | succ d ih =>
    intro i hi
    by_cases e : l[i]'(by omega) = m[i]'(by omega)
    ·have := ih (i + 1) (by omega)
     have e2 : decide (l.drop i = m.drop i) = decide (l.drop (i + 1) = m.drop (i + 1)) := by
      exact decide_eq_decide.2 (by rw [Zx l i (by omega), Zx m i (by omega), e]; exact ⟨fun h => (List.cons.inj h).2, fun h => by rw [h]⟩)
     rw [e2]
     refine Ev.step (fun k => ?_) this
     simp only [escritoireref01_Same.l0]
     rw [if_pos (by omega), if_pos (by omega), if_pos (by omega), Yz l i (by omega), Yz m i (by omega), if_pos e, zV (by omega) (by omega)]
     rfl
    ·have e2 : decide (l.drop i = m.drop i) = false := by
      exact decide_eq_false (by rw [Zx l i (by omega), Zx m i (by omega)]; exact fun h => e (List.cons.inj h).1)
     rw [e2]
     refine Ev.step (f := fun _ => some false) (fun k => ?_) (Ev.now _)
     simp only [escritoireref01_Same.l0]
     rw [if_pos (by omega), if_pos (by omega), if_pos (by omega), Yz l i (by omega), Yz m i (by omega), if_neg e]
  exact Ev.congr (fun k => by unfold escritoireref01_Same.f; rw [if_pos (by omega)]; rfl) (key l.length 0 (by omega))
 ·have : decide (l = m) = false := decide_eq_false (fun e => hl (by rw [e]))
  rw [this]
  exact Ev.congr (f := fun _ => some false) (fun k => by unfold escritoireref01_Same.f; rw [if_neg (by omega)]) (Ev.now _)
/-! ### which cards may be -/
theorem block_f (x : Int) : escritoireref06_block.f x = some (!oddB x) := by
 unfold escritoireref06_block.f oddB
 by_cases c : x ≥ -1
 ·rw [if_pos c, decide_eq_false (by omega : ¬ x < -1)]
  by_cases d : x < 96
  ·rw [decide_eq_true d, decide_eq_false (by omega)]; rfl
  ·rw [decide_eq_false d, decide_eq_true (by omega)]; rfl
 ·rw [if_neg c, decide_eq_true (by omega)]; rfl
theorem right_fin (a0 a1 a2 a3 a4 a5 a6 a7 a8 a9 : Int) : Ev (fun k => escritoireref06_Right.l0 k 5 a0 a1 a2 a3 a4 a5 a6 a7 a8 a9) (finB a0 a1 a2 a9) := by
 refine Ev.step (f := fun _ => some (finB a0 a1 a2 a9)) (fun k => ?_) (Ev.now _)
 simp only [escritoireref06_Right.l0, block_f, Option.bind_some]
 rw [if_neg (by decide)]
 unfold finB fitsB
 by_cases h1 : 1 ≤ a0
 ·rw [if_pos h1, decide_eq_true h1]
  by_cases h2 : a0 ≤ 3
  ·rw [if_pos h2, decide_eq_true h2]
   by_cases h3 : 0 ≤ a1
   ·rw [if_pos h3, decide_eq_true h3]
    by_cases h4 : a1 ≤ 255
    ·rw [if_pos h4, decide_eq_true h4]
     by_cases h5 : 0 ≤ a2
     ·rw [if_pos h5, decide_eq_true h5]
      by_cases h6 : a2 ≤ 2688
      ·rw [if_pos h6, decide_eq_true h6]; rfl
      ·rw [if_neg h6, decide_eq_false h6]; rfl
     ·rw [if_neg h5, decide_eq_false h5]; rfl
    ·rw [if_neg h4, decide_eq_false h4]; rfl
   ·rw [if_neg h3, decide_eq_false h3]; rfl
  ·rw [if_neg h2, decide_eq_false h2]; rfl
 ·rw [if_neg h1, decide_eq_false h1]; rfl
theorem refRight_ev (a0 a1 a2 a3 a4 a5 a6 a7 a8 a9 : Int) : Ev (fun k => escritoireref06_Right.f k a0 a1 a2 a3 a4 a5 a6 a7 a8 a9) (yl a0 a1 a2 a3 a4 a5 a6 a7 a8 a9) := by
 by_cases h0 : a0 = 0
 ·subst h0
  refine Ev.congr (f := fun _ => some (yl 0 a1 a2 a3 a4 a5 a6 a7 a8 a9)) (fun k => ?_) (Ev.now _)
  unfold escritoireref06_Right.f
  rw [if_pos rfl]
  unfold escritoireref06_None.f yl
  simp only [Option.bind_some, if_pos]
  unfold noneB dirNone
  congr 1
  cases (a4 == -1) <;> cases (a5 == -1) <;> cases (a6 == -1) <;> cases (a7 == -1) <;> cases (a8 == -1) <;> simp
 ·have step : ∀ (i : Int) (x : Int) (b : Bool) (hx : (i = 0 ∧ x = a4) ∨ (i = 1 ∧ x = a5) ∨ (i = 2 ∧ x = a6) ∨ (i = 3 ∧ x = a7) ∨ (i = 4 ∧ x = a8)) (h : Ev (fun k => escritoireref06_Right.l0 k (i + 1) a0 a1 a2 a3 a4 a5 a6 a7 a8 a9) b),
    Ev (fun k => escritoireref06_Right.l0 k i a0 a1 a2 a3 a4 a5 a6 a7 a8 a9) (!oddB x && b) := by
   intro i x b hx h
   refine Ev.step (fun k => ?_) (ev_and (!oddB x) h)
   simp only [escritoireref06_Right.l0, block_f, Option.bind_some]
   have e : wrap64 (i + 1) = i + 1 := zV (by omega) (by omega)
   rw [e]
   rcases hx with ⟨rfl, rfl⟩ | ⟨rfl, rfl⟩ | ⟨rfl, rfl⟩ | ⟨rfl, rfl⟩ | ⟨rfl, rfl⟩ <;> simp
  have h5 := right_fin a0 a1 a2 a3 a4 a5 a6 a7 a8 a9
  have h4 := step 4 a8 _ (by simp) h5
  have h3 := step 3 a7 _ (by simp) h4
  have h2 := step 2 a6 _ (by simp) h3
  have h1 := step 1 a5 _ (by simp) h2
  have hz := step 0 a4 _ (by simp) h1
  have e : yl a0 a1 a2 a3 a4 a5 a6 a7 a8 a9 = (!oddB a4 && (!oddB a5 && (!oddB a6 && (!oddB a7 && (!oddB a8 && finB a0 a1 a2 a9))))) := by
   unfold yl finB
   rw [if_neg h0]
   by_cases k1 : a0 = 1 ∨ a0 = 2 ∨ a0 = 3
   ·rw [if_pos k1, decide_eq_true (by omega : 1 ≤ a0), decide_eq_true (by omega : a0 ≤ 3)]
    simp only [List.any_cons, List.any_nil]
    cases oddB a4 <;> cases oddB a5 <;> cases oddB a6 <;> cases oddB a7 <;> cases oddB a8 <;> cases oddB a9 <;> cases fitsB a1 a2 <;> rfl
   ·rw [if_neg k1]
    have : (decide (1 ≤ a0) && (decide (a0 ≤ 3) && (fitsB a1 a2 && !oddB a9))) = false := by
     by_cases g : 1 ≤ a0
     ·rw [decide_eq_false (by omega : ¬ a0 ≤ 3)]; simp
     ·rw [decide_eq_false g]; rfl
    rw [this]
    simp
  rw [e]
  refine Ev.congr (fun k => ?_) hz
  unfold escritoireref06_Right.f
  rw [if_neg h0]

/-! the document's own -/
theorem Yy {x2 : Int} {a0 a1 a2 a3 a4 a5 a6 a7 a8 a9 w0 V : Int} {r : List Int × Int} (i : Int) (x : Int) (hx : (i = 0 ∧ x = a4) ∨ (i = 1 ∧ x = a5) ∨ (i = 2 ∧ x = a6) ∨ (i = 3 ∧ x = a7)) (hb : -1 ≤ x ∧ x ≤ 95) (h2 : 0 ≤ x2 ∧ x2 < 281474976710656)
  (h : Ev (fun k => escritoireref06_Write.l0 k [w0, V, 65536 * x2 + (x + 1), 0, 0, 0, 0, 0] (i - 1) a0 a1 a2 a3 a4 a5 a6 a7 a8 a9) r) : Ev (fun k => escritoireref06_Write.l0 k [w0, V, x2, 0, 0, 0, 0, 0] i a0 a1 a2 a3 a4 a5 a6 a7 a8 a9) r := by
 refine Ev.step (fun k => ?_) h
 simp only [escritoireref06_Write.l0]
 have e1 : wrap64 (i - 1) = i - 1 := zV (by omega) (by omega)
 have e2 : wrap64 (x + 1) = x + 1 := zV (by omega) (by omega)
 have e3 : IntKind.u64.wrap (x + 1) = x + 1 := yM (by omega) (by omega)
 have e4 : IntKind.u64.wrap (65536 * x2) = 65536 * x2 := yM (by omega) (by omega)
 have e5 : IntKind.u64.wrap (65536 * x2 + (x + 1)) = 65536 * x2 + (x + 1) := yM (by omega) (by omega)
 have e6 : rd [w0, V, x2, 0, 0, 0, 0, 0] 2 = x2 := rfl
 rw [if_pos (by omega), if_pos (by simp), e1, e6, e4]
 rcases hx with ⟨rfl, rfl⟩ | ⟨rfl, rfl⟩ | ⟨rfl, rfl⟩ | ⟨rfl, rfl⟩ <;> simp [e2, e3, e5]
theorem refWrite_ev (a0 a1 a2 a3 a4 a5 a6 a7 a8 a9 : Int) : Ev (fun k => escritoireref06_Write.f k a0 a1 a2 a3 a4 a5 a6 a7 a8 a9) (encR a0 a1 a2 a3 a4 a5 a6 a7 a8 a9) := by
 have hR := refRight_ev a0 a1 a2 a3 a4 a5 a6 a7 a8 a9
 refine Ev.congr (fun k => by unfold escritoireref06_Write.f; rfl) (Ev.bind hR ?_)
 unfold encR
 by_cases h : yl a0 a1 a2 a3 a4 a5 a6 a7 a8 a9 = true
 ·rw [if_pos h]
  obtain ⟨b0, b1, b2, b4, b5, b6, b7, b8, b9⟩ := Ya h
  have u1 : IntKind.u64.wrap a0 = a0 := yM (by omega) (by omega)
  have u2 : IntKind.u64.wrap a1 = a1 := yM (by omega) (by omega)
  have u3 : IntKind.u64.wrap a2 = a2 := yM (by omega) (by omega)
  have u4 : IntKind.u64.wrap (256 * a1) = 256 * a1 := yM (by omega) (by omega)
  have u5 : IntKind.u64.wrap (16777216 * a2) = 16777216 * a2 := yM (by omega) (by omega)
  have u6 : IntKind.u64.wrap (a0 + 256 * a1) = a0 + 256 * a1 := yM (by omega) (by omega)
  have u7 : IntKind.u64.wrap (a0 + 256 * a1 + 16777216 * a2) = a0 + 256 * a1 + 16777216 * a2 := yM (by omega) (by omega)
  have v8 : wrap64 (a8 + 1) = a8 + 1 := zV (by omega) (by omega)
  have v9 : wrap64 (a9 + 1) = a9 + 1 := zV (by omega) (by omega)
  have u8 : IntKind.u64.wrap (a8 + 1) = a8 + 1 := yM (by omega) (by omega)
  have u9 : IntKind.u64.wrap (a9 + 1) = a9 + 1 := yM (by omega) (by omega)
  have u10 : IntKind.u64.wrap (65536 * (a9 + 1)) = 65536 * (a9 + 1) := yM (by omega) (by omega)
  have u11 : IntKind.u64.wrap (a8 + 1 + 65536 * (a9 + 1)) = a8 + 1 + 65536 * (a9 + 1) := yM (by omega) (by omega)
  have fin : ∀ x2 : Int, Ev (fun k => escritoireref06_Write.l0 k [a0 + 256 * a1 + 16777216 * a2, a3, x2, 0, 0, 0, 0, 0] (-1) a0 a1 a2 a3 a4 a5 a6 a7 a8 a9) ([a0 + 256 * a1 + 16777216 * a2, a3, x2, a8 + 1 + 65536 * (a9 + 1), 0, 0, 0, 0], 0) := by
   intro x2
   refine Ev.step (f := fun _ => some ([a0 + 256 * a1 + 16777216 * a2, a3, x2, a8 + 1 + 65536 * (a9 + 1), 0, 0, 0, 0], 0)) (fun k => ?_) (Ev.now _)
   simp only [escritoireref06_Write.l0]
   rw [if_neg (by decide), if_pos (by simp), v8, v9, u8, u9, u10, u11]
   rfl
  have s0 := Yy 0 a4 (by simp) b4 (x2 := 65536 * (65536 * (65536 * 0 + (a7 + 1)) + (a6 + 1)) + (a5 + 1)) (by omega) (fin _)
  have s1 := Yy 1 a5 (by simp) b5 (x2 := 65536 * (65536 * 0 + (a7 + 1)) + (a6 + 1)) (by omega) s0
  have s2 := Yy 2 a6 (by simp) b6 (x2 := 65536 * 0 + (a7 + 1)) (by omega) s1
  have s3 := Yy 3 a7 (by simp) b7 (x2 := 0) (by omega) s2
  have e : ([a0 + 256 * a1 + 16777216 * a2, a3, 65536 * (65536 * (65536 * (65536 * 0 + (a7 + 1)) + (a6 + 1)) + (a5 + 1)) + (a4 + 1), a8 + 1 + 65536 * (a9 + 1), 0, 0, 0, 0] : List Int) = enc a0 a1 a2 a3 a4 a5 a6 a7 a8 a9 := by
   unfold enc
   have q1 : a0 + 256 * a1 + 16777216 * a2 = a0 + a1 * 256 + a2 * 16777216 := by omega
   have q2 : 65536 * (65536 * (65536 * (65536 * 0 + (a7 + 1)) + (a6 + 1)) + (a5 + 1)) + (a4 + 1) = (a4 + 1) + (a5 + 1) * 65536 + (a6 + 1) * 4294967296 + (a7 + 1) * 281474976710656 := by omega
   have q3 : a8 + 1 + 65536 * (a9 + 1) = (a8 + 1) + (a9 + 1) * 65536 := by omega
   rw [q1, q2, q3]
  rw [← e]
  refine Ev.congr (fun k => ?_) s3
  rw [if_pos h, if_pos (by decide)]
  simp only [Option.bind_some]
  rw [if_pos (by decide), if_pos (by decide), u1, u2, u3, u4, u5, u6, u7]
  rfl
 ·rw [if_neg h]
  exact Ev.congr (f := fun _ => some ([], 1)) (fun k => by rw [if_neg h]) (Ev.now _)

theorem rrfinish {l : List Int} (hl : l.length = 8) {w3 x : Nat} (h3 : rd l 3 = (w3 : Int)) (b3 : w3 < 2 ^ 64) (a0 a1 a2 a3 a4 a5 a6 a7 a8 a9 : Int) : Ev (fun k => escritoireref06_Read.l0 k l (x : Int) 4 a0 a1 a2 a3 a4 a5 a6 a7 a8 a9) (outR l a0 a1 a2 a3 a4 a5 a6 a7 (((w3 % 65536 : Nat) : Int) - 1) (((w3 / 65536 % 65536 : Nat) : Int) - 1)) := by
 have m1 := Nat.mod_lt w3 (show 0 < 65536 by omega)
 have m2 := Nat.mod_lt (w3 / 65536) (show 0 < 65536 by omega)
 have dl := Nat.div_le_self w3 65536
 have t1 : wrap64 (wrap64 (Int.tmod (w3 : Int) 65536) - 1) = ((w3 % 65536 : Nat) : Int) - 1 := by
  rw [tm w3 65536 (M := 65536) rfl (by omega) (by omega), zV (by omega) (by omega)]
 have t2 : wrap64 (wrap64 (Int.tmod (IntKind.u64.wrap (Int.tdiv (w3 : Int) 65536)) 65536) - 1) = ((w3 / 65536 % 65536 : Nat) : Int) - 1 := by
  rw [td w3 65536 (M := 65536) rfl b3, tm (w3 / 65536) 65536 (M := 65536) rfl (by omega) (by omega), zV (by omega) (by omega)]
 generalize hD8 : ((w3 % 65536 : Nat) : Int) - 1 = D8 at *
 generalize hD9 : ((w3 / 65536 % 65536 : Nat) : Int) - 1 = D9 at *
 refine Ev.step (f := fun k => (escritoireref06_Write.f k a0 a1 a2 a3 a4 a5 a6 a7 D8 D9).bind fun bt291 => (if bt291.2 = 0 then ((escritoireref01_Same.f k bt291.1 l).bind fun t295 => (if t295 = true then (some (a0, a1, a2, a3, a4, a5, a6, a7, D8, D9, 0)) else (some bad))) else (some bad))) (fun k => ?_) (Ev.bind (refWrite_ev a0 a1 a2 a3 a4 a5 a6 a7 D8 D9) ?_)
 ·simp only [escritoireref06_Read.l0]
  rw [if_neg (by decide), if_pos (by omega), h3, t1, t2]
  rfl
 ·unfold encR outR
  by_cases h : yl a0 a1 a2 a3 a4 a5 a6 a7 D8 D9 = true
  ·rw [if_pos h]
   have hE := Same_ev (enc a0 a1 a2 a3 a4 a5 a6 a7 D8 D9) l (by unfold enc; simp)
   by_cases e : enc a0 a1 a2 a3 a4 a5 a6 a7 D8 D9 = l
   ·rw [decide_eq_true e] at hE
    have e2 : (if yl a0 a1 a2 a3 a4 a5 a6 a7 D8 D9 = true ∧ enc a0 a1 a2 a3 a4 a5 a6 a7 D8 D9 = l then ((a0, a1, a2, a3, a4, a5, a6, a7, D8, D9, 0) : C11) else bad) = (a0, a1, a2, a3, a4, a5, a6, a7, D8, D9, 0) := if_pos ⟨h, e⟩
    rw [e2]
    refine Ev.congr (f := fun k => (escritoireref01_Same.f k (enc a0 a1 a2 a3 a4 a5 a6 a7 D8 D9) l).bind fun t156 => (if t156 = true then (some (a0, a1, a2, a3, a4, a5, a6, a7, D8, D9, 0)) else (some bad))) (fun k => if_pos rfl) (Ev.bind hE ?_)
    exact Ev.congr (f := fun _ => some _) (fun k => if_pos rfl) (Ev.now _)
   ·rw [decide_eq_false e] at hE
    have e2 : (if yl a0 a1 a2 a3 a4 a5 a6 a7 D8 D9 = true ∧ enc a0 a1 a2 a3 a4 a5 a6 a7 D8 D9 = l then ((a0, a1, a2, a3, a4, a5, a6, a7, D8, D9, 0) : C11) else bad) = bad := if_neg (fun g => e g.2)
    rw [e2]
    refine Ev.congr (f := fun k => (escritoireref01_Same.f k (enc a0 a1 a2 a3 a4 a5 a6 a7 D8 D9) l).bind fun t156 => (if t156 = true then (some (a0, a1, a2, a3, a4, a5, a6, a7, D8, D9, 0)) else (some bad))) (fun k => if_pos rfl) (Ev.bind hE ?_)
    exact Ev.congr (f := fun _ => some bad) (fun k => if_neg (by decide)) (Ev.now _)
  ·rw [if_neg h, if_neg (fun g => h g.1)]
   exact Ev.congr (f := fun _ => some bad) (fun k => by simp) (Ev.now _)
theorem rrset0 {l : List Int} {x : Nat} (hx : x < 2 ^ 64) {r : C11} {a0 a1 a2 a3 a4 a5 a6 a7 a8 a9 : Int} (h : Ev (fun k => escritoireref06_Read.l0 k l ((x / 65536 : Nat) : Int) 1 a0 a1 a2 a3 (((x % 65536 : Nat) : Int) - 1) a5 a6 a7 a8 a9) r) : Ev (fun k => escritoireref06_Read.l0 k l (x : Int) 0 a0 a1 a2 a3 a4 a5 a6 a7 a8 a9) r := by
 have m1 := Nat.mod_lt x (show 0 < 65536 by omega)
 have t1 : wrap64 (wrap64 (Int.tmod (x : Int) 65536) - 1) = ((x % 65536 : Nat) : Int) - 1 := by
  rw [tm x 65536 (M := 65536) rfl (by omega) (by omega), zV (by omega) (by omega)]
 have t2 : IntKind.u64.wrap (Int.tdiv (x : Int) 65536) = ((x / 65536 : Nat) : Int) := td x 65536 (M := 65536) rfl hx
 refine Ev.step (fun k => ?_) h
 simp only [escritoireref06_Read.l0]
 rw [if_pos (by decide), t1, t2]
 simp [show wrap64 1 = 1 by kernel_rfl]
theorem rrset1 {l : List Int} {x : Nat} (hx : x < 2 ^ 64) {r : C11} {a0 a1 a2 a3 a4 a5 a6 a7 a8 a9 : Int} (h : Ev (fun k => escritoireref06_Read.l0 k l ((x / 65536 : Nat) : Int) 2 a0 a1 a2 a3 a4 (((x % 65536 : Nat) : Int) - 1) a6 a7 a8 a9) r) : Ev (fun k => escritoireref06_Read.l0 k l (x : Int) 1 a0 a1 a2 a3 a4 a5 a6 a7 a8 a9) r := by
 have m1 := Nat.mod_lt x (show 0 < 65536 by omega)
 have t1 : wrap64 (wrap64 (Int.tmod (x : Int) 65536) - 1) = ((x % 65536 : Nat) : Int) - 1 := by
  rw [tm x 65536 (M := 65536) rfl (by omega) (by omega), zV (by omega) (by omega)]
 have t2 : IntKind.u64.wrap (Int.tdiv (x : Int) 65536) = ((x / 65536 : Nat) : Int) := td x 65536 (M := 65536) rfl hx
 refine Ev.step (fun k => ?_) h
 simp only [escritoireref06_Read.l0]
 rw [if_pos (by decide), t1, t2]
 simp [show wrap64 2 = 2 by kernel_rfl]
theorem rrset2 {l : List Int} {x : Nat} (hx : x < 2 ^ 64) {r : C11} {a0 a1 a2 a3 a4 a5 a6 a7 a8 a9 : Int} (h : Ev (fun k => escritoireref06_Read.l0 k l ((x / 65536 : Nat) : Int) 3 a0 a1 a2 a3 a4 a5 (((x % 65536 : Nat) : Int) - 1) a7 a8 a9) r) : Ev (fun k => escritoireref06_Read.l0 k l (x : Int) 2 a0 a1 a2 a3 a4 a5 a6 a7 a8 a9) r := by
 have m1 := Nat.mod_lt x (show 0 < 65536 by omega)
 have t1 : wrap64 (wrap64 (Int.tmod (x : Int) 65536) - 1) = ((x % 65536 : Nat) : Int) - 1 := by
  rw [tm x 65536 (M := 65536) rfl (by omega) (by omega), zV (by omega) (by omega)]
 have t2 : IntKind.u64.wrap (Int.tdiv (x : Int) 65536) = ((x / 65536 : Nat) : Int) := td x 65536 (M := 65536) rfl hx
 refine Ev.step (fun k => ?_) h
 simp only [escritoireref06_Read.l0]
 rw [if_pos (by decide), t1, t2]
 simp [show wrap64 3 = 3 by kernel_rfl]
theorem rrset3 {l : List Int} {x : Nat} (hx : x < 2 ^ 64) {r : C11} {a0 a1 a2 a3 a4 a5 a6 a7 a8 a9 : Int} (h : Ev (fun k => escritoireref06_Read.l0 k l ((x / 65536 : Nat) : Int) 4 a0 a1 a2 a3 a4 a5 a6 (((x % 65536 : Nat) : Int) - 1) a8 a9) r) : Ev (fun k => escritoireref06_Read.l0 k l (x : Int) 3 a0 a1 a2 a3 a4 a5 a6 a7 a8 a9) r := by
 have m1 := Nat.mod_lt x (show 0 < 65536 by omega)
 have t1 : wrap64 (wrap64 (Int.tmod (x : Int) 65536) - 1) = ((x % 65536 : Nat) : Int) - 1 := by
  rw [tm x 65536 (M := 65536) rfl (by omega) (by omega), zV (by omega) (by omega)]
 have t2 : IntKind.u64.wrap (Int.tdiv (x : Int) 65536) = ((x / 65536 : Nat) : Int) := td x 65536 (M := 65536) rfl hx
 refine Ev.step (fun k => ?_) h
 simp only [escritoireref06_Read.l0]
 rw [if_pos (by decide), t1, t2]
 simp [show wrap64 4 = 4 by kernel_rfl]
theorem refRead_ev {l : List Int} (hl : l.length = 8) {w0 w2 w3 : Nat} (h0 : rd l 0 = (w0 : Int)) (h2 : rd l 2 = (w2 : Int)) (h3 : rd l 3 = (w3 : Int)) (b0 : w0 < 2 ^ 64) (b2 : w2 < 2 ^ 64) (b3 : w3 < 2 ^ 64) :
  Ev (fun k => escritoireref06_Read.f k l) (outR l ((getN w0 0 8 : Nat) : Int) ((getN w0 8 16 : Nat) : Int) ((getN w0 24 32 : Nat) : Int) (rd l 1) (((getN w2 0 16 : Nat) : Int) - 1) (((getN w2 16 16 : Nat) : Int) - 1) (((getN w2 32 16 : Nat) : Int) - 1) (((getN w2 48 16 : Nat) : Int) - 1) (((getN w3 0 16 : Nat) : Int) - 1) (((getN w3 16 16 : Nat) : Int) - 1)) := by
 have d1 := Nat.div_le_self w2 65536
 have d2 := Nat.div_le_self (w2 / 65536) 65536
 have d3 := Nat.div_le_self (w2 / 65536 / 65536) 65536
 have f4 := rrfinish (x := w2 / 65536 / 65536 / 65536 / 65536) hl h3 b3 ((w0 % 256 : Nat) : Int) ((w0 / 256 % 65536 : Nat) : Int) ((w0 / 16777216 % 4294967296 : Nat) : Int) (rd l 1) (((w2 % 65536 : Nat) : Int) - 1) (((w2 / 65536 % 65536 : Nat) : Int) - 1) (((w2 / 65536 / 65536 % 65536 : Nat) : Int) - 1) (((w2 / 65536 / 65536 / 65536 % 65536 : Nat) : Int) - 1) (-1) (-1)
 have f3 := rrset3 (a7 := -1) (by omega) f4
 have f2 := rrset2 (a6 := -1) (by omega) f3
 have f1 := rrset1 (a5 := -1) (by omega) f2
 have f0 := rrset0 (a4 := -1) (by omega) f1
 have e0 : getN w0 0 8 = w0 % 256 := by rw [Zy]; simp
 have e1 : getN w0 8 16 = w0 / 256 % 65536 := by rw [Zy]
 have e2 : getN w0 24 32 = w0 / 16777216 % 4294967296 := by rw [Zy]
 have e4 : getN w2 0 16 = w2 % 65536 := by rw [Zy]; simp
 have e5 : getN w2 16 16 = w2 / 65536 % 65536 := by rw [Zy]
 have e6 : getN w2 32 16 = w2 / 65536 / 65536 % 65536 := by rw [Zy, Nat.div_div_eq_div_mul]
 have e7 : getN w2 48 16 = w2 / 65536 / 65536 / 65536 % 65536 := by rw [Zy, Nat.div_div_eq_div_mul, Nat.div_div_eq_div_mul]
 have e8 : getN w3 0 16 = w3 % 65536 := by rw [Zy]; simp
 have e9 : getN w3 16 16 = w3 / 65536 % 65536 := by rw [Zy]
 rw [e0, e1, e2, e4, e5, e6, e7, e8, e9]
 have dl := Nat.div_le_self w0 256
 have dl2 := Nat.div_le_self w0 16777216
 have t0 : wrap64 (Int.tmod (w0 : Int) 256) = ((w0 % 256 : Nat) : Int) := tm w0 256 (M := 256) rfl (by omega) (by omega)
 have t1 : wrap64 (Int.tmod (IntKind.u64.wrap (Int.tdiv (w0 : Int) 256)) 65536) = ((w0 / 256 % 65536 : Nat) : Int) := by
  rw [td w0 256 (M := 256) rfl b0, tm (w0 / 256) 65536 (M := 65536) rfl (by omega) (by omega)]
 have t2 : wrap64 (Int.tmod (IntKind.u64.wrap (Int.tdiv (w0 : Int) 16777216)) 4294967296) = ((w0 / 16777216 % 4294967296 : Nat) : Int) := by
  rw [td w0 16777216 (M := 16777216) (by omega) b0, tm (w0 / 16777216) 4294967296 (M := 4294967296) (by omega) (by omega) (by omega)]
 refine Ev.congr (fun k => ?_) f0
 unfold escritoireref06_Read.f escritoireref06_None.f
 rw [if_pos (by omega), if_pos (by omega)]
 simp only [Option.bind_some]
 rw [if_pos (by omega), if_pos (by omega), h0, h2, t0, t1, t2]
theorem refRead_no {l : List Int} (hl : l.length ≠ 8) : Ev (fun k => escritoireref06_Read.f k l) bad := Ev.congr (f := fun _ => some bad) (fun k => by unfold escritoireref06_Read.f; rw [if_neg (by omega)]; rfl) (Ev.now _)


theorem nat_at {l : List Int} (hl : l.length = 8) (hw : ∀ x ∈ l, (Lit.int .u64 x).wf = true) (i : Nat) (hi : i < 8) : ∃ n : Nat, rd l (i : Int) = (n : Int) ∧ n < 2 ^ 64 := by
 rw [Yz l i (by omega)]
 exact wfu64 (hw _ (List.getElem_mem (by omega)))
end Go.Proofs.YtkbhilhefnahpaaGreat.Cp
namespace Go.Proofs.YtkbhilhefnahpaaGreat.Cp
open Go Go.RowKit Go.Proofs.YtkbhilhefnahpaaGreat.Print Go.Proofs.YtkbhilhefnahpaaGreatW.PrintWords Go.Proofs.YtkbhilhefnahpaaGreatW.PrintLast Go.Proofs.YtkbhilhefnahpaaGreatW.PrintMore
/-- Any words are read as some card by both. -/
theorem read_both (l : List Int) (hw : ∀ x ∈ l, (Lit.int .u64 x).wf = true) : ∃ c : C11, Ev (fun k => cards_Read.f k l) c ∧ Ev (fun k => escritoireref06_Read.f k l) c := by
 by_cases hl : l.length = 8
 ·obtain ⟨w0, h0, b0⟩ := nat_at hl hw 0 (by omega)
  obtain ⟨w2, h2, b2⟩ := nat_at hl hw 2 (by omega)
  obtain ⟨w3, h3, b3⟩ := nat_at hl hw 3 (by omega)
  exact ⟨_, Read_ev hl h0 h2 h3 b0 b2 b3, refRead_ev hl h0 h2 h3 b0 b2 b3⟩
 ·exact ⟨_, Read_no hl, refRead_no hl⟩
/-- Any card is written as some words by both. -/
theorem write_both (a0 a1 a2 a3 a4 a5 a6 a7 a8 a9 : Int) (h3 : 0 ≤ a3 ∧ a3 < 18446744073709551616) : ∃ (l : List Int) (e : Int), Ev (fun k => cards_Write.f k a0 a1 a2 a3 a4 a5 a6 a7 a8 a9) (l, e) ∧ Ev (fun k => escritoireref06_Write.f k a0 a1 a2 a3 a4 a5 a6 a7 a8 a9) (l, e) ∧ (e = 0 → l.length = 8) ∧ (∀ v ∈ l, 0 ≤ v ∧ v < 18446744073709551616) ∧ l.length ≤ 8 := by
 have h1 := Write_ev a0 a1 a2 a3 a4 a5 a6 a7 a8 a9
 have h2 := refWrite_ev a0 a1 a2 a3 a4 a5 a6 a7 a8 a9
 unfold encR at h1 h2
 by_cases h : yl a0 a1 a2 a3 a4 a5 a6 a7 a8 a9 = true
 ·rw [if_pos h] at h1 h2
  have hb := Ya h
  refine ⟨_, _, h1, h2, fun _ => rfl, ?_, Nat.le_refl 8⟩
  intro v hv
  unfold enc at hv
  simp only [List.mem_cons, List.not_mem_nil, or_false] at hv
  rcases hv with rfl | rfl | rfl | rfl | rfl | rfl | rfl | rfl <;> omega
 ·rw [if_neg h] at h1 h2
  exact ⟨[], 1, h1, h2, fun he => absurd he (by decide), (fun v hv => by cases hv), Nat.zero_le 8⟩
end Go.Proofs.YtkbhilhefnahpaaGreat.Cp
