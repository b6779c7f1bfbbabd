/- The card of any words. -/
import Derived.Test.YtdcmahndbmonbaaPureCodec
namespace Go.Proofs.Ytdcmahndbmonbaa.Pure
open Go.RowKit Go.Proofs.Ytdcmahndbmonbaa.Print Go.Proofs.YtdcmahndbmonbaaW.PrintWords Go.Proofs.YtdcmahndbmonbaaW.PrintLast Go.Proofs.YtdcmahndbmonbaaW.PrintMore

abbrev C11 := Int × Int × Int × Int × Int × Int × Int × Int × Int × Int × Int
def bad : C11 := (0, 0, 0, 0, 0, 0, 0, 0, 0, 0, 15)
def outR (l : List Int) (a0 a1 a2 a3 a4 a5 a6 a7 a8 a9 : Int) : C11 := if rightB a0 a1 a2 a3 a4 a5 a6 a7 a8 a9 = true ∧ enc a0 a1 a2 a3 a4 a5 a6 a7 a8 a9 = l then (a0, a1, a2, a3, a4, a5, a6, a7, a8, a9, 0) else bad
theorem getN_div (w a b : Nat) : getN w a b = w / 2 ^ a % 2 ^ b := by unfold getN; rw [Nat.shiftRight_eq_div_pow]
theorem rround {l v : List Int} {i : Nat} {r : C11} (hi : i < 9) (hl : l.length = 8) (hv : v.length < 100) {p w a b : Nat} (hf : rd_T45 FL (i : Int) = ⟨(p : Int), (a : Int), (b : Int)⟩) (hp : p < 8)
    (hrd : rd l (p : Int) = (w : Int)) (hw : w < 2 ^ 64) (hab : a + b ≤ 64) (hb : 1 ≤ b) (hb2 : b ≤ 32)
    (h : Ev (fun k => cards_Read.l0 k l (v ++ [((getN w a b : Nat) : Int)]) FL 9 ((i + 1 : Nat) : Int)) r) : Ev (fun k => cards_Read.l0 k l v FL 9 (i : Int)) r := by
  have hget := Get_yes (w := w) (a := a) (b := b) hw ⟨by omega, by omega, by omega, by omega⟩
  have hlt : getN w a b < 4294967296 := Nat.lt_of_lt_of_le (getN_lt w a b) (Nat.le_trans (Nat.pow_le_pow_right (by decide) hb2) (Nat.le_refl _))
  have hFL : (FL.length : Int) = 9 := rfl
  refine Ev.step (fun k => ?_) h
  simp only [cards_Read.l0]
  rw [if_pos (by omega), if_pos (by omega), if_pos (by omega), hf]
  dsimp only
  rw [if_pos (by omega), if_pos (by omega), hrd, hget]
  simp only [Option.bind_some]
  rw [if_pos (by omega), wrap_id (n := (i : Int) + 1) (by omega) (by omega), wrap_id (n := ((getN w a b : Nat) : Int)) (by omega) (by omega)]
  rfl
theorem rfinish (l v : List Int) (a0 a1 a2 a3 a4 a5 a6 a7 a8 a9 : Int) : Ev (fun k => cards_Read.l1 k l v 5 a0 a1 a2 a3 a4 a5 a6 a7 a8 a9) (outR l a0 a1 a2 a3 a4 a5 a6 a7 a8 a9) := by
  refine Ev.step (f := fun k => (cards_Write.f k a0 a1 a2 a3 a4 a5 a6 a7 a8 a9).bind fun bt152 => (if bt152.2 = 0 then ((slices_Equal_uint64_uint64.f k bt152.1 l).bind fun t156 => (if t156 = true then (some (a0, a1, a2, a3, a4, a5, a6, a7, a8, a9, 0)) else (some bad))) else (some bad))) (fun k => ?_) (Ev.bind (Write_ev a0 a1 a2 a3 a4 a5 a6 a7 a8 a9) ?_)
  · simp only [cards_Read.l1]
    rw [if_neg (by decide)]
    rfl
  · unfold encR outR
    by_cases h : rightB a0 a1 a2 a3 a4 a5 a6 a7 a8 a9 = true
    · rw [if_pos h]
      have hE := Equal_ev (enc a0 a1 a2 a3 a4 a5 a6 a7 a8 a9) l (by unfold enc; simp)
      by_cases e : enc a0 a1 a2 a3 a4 a5 a6 a7 a8 a9 = l
      · rw [decide_eq_true e] at hE
        have e2 : (if rightB a0 a1 a2 a3 a4 a5 a6 a7 a8 a9 = true ∧ enc a0 a1 a2 a3 a4 a5 a6 a7 a8 a9 = l then ((a0, a1, a2, a3, a4, a5, a6, a7, a8, a9, 0) : C11) else bad) = (a0, a1, a2, a3, a4, a5, a6, a7, a8, a9, 0) := if_pos ⟨h, e⟩
        rw [e2]
        refine Ev.congr (f := fun k => (slices_Equal_uint64_uint64.f k (enc a0 a1 a2 a3 a4 a5 a6 a7 a8 a9) l).bind fun t156 => (if t156 = true then (some (a0, a1, a2, a3, a4, a5, a6, a7, a8, a9, 0)) else (some bad))) (fun k => if_pos rfl) (Ev.bind hE ?_)
        exact Ev.congr (f := fun _ => some _) (fun k => if_pos rfl) (Ev.now _)
      · rw [decide_eq_false e] at hE
        have e2 : (if rightB a0 a1 a2 a3 a4 a5 a6 a7 a8 a9 = true ∧ enc a0 a1 a2 a3 a4 a5 a6 a7 a8 a9 = l then ((a0, a1, a2, a3, a4, a5, a6, a7, a8, a9, 0) : C11) else bad) = bad := if_neg (fun g => e g.2)
        rw [e2]
        refine Ev.congr (f := fun k => (slices_Equal_uint64_uint64.f k (enc a0 a1 a2 a3 a4 a5 a6 a7 a8 a9) l).bind fun t156 => (if t156 = true then (some (a0, a1, a2, a3, a4, a5, a6, a7, a8, a9, 0)) else (some bad))) (fun k => if_pos rfl) (Ev.bind hE ?_)
        exact Ev.congr (f := fun _ => some bad) (fun k => if_neg (by decide)) (Ev.now _)
    · rw [if_neg h, if_neg (fun g => h g.1)]
      exact Ev.congr (f := fun _ => some bad) (fun k => by simp) (Ev.now _)
theorem rset0 {l : List Int} {v : List Int} {x : Int} {r : C11} {a0 a1 a2 a3 a4 a5 a6 a7 a8 a9 : Int} (hv : v.length = 9) (hx : rd v 3 = x) (h0 : 0 ≤ x) (h1 : x < 4294967296) (h : Ev (fun k => cards_Read.l1 k l v 1 a0 a1 a2 a3 (x - 1) a5 a6 a7 a8 a9) r) : Ev (fun k => cards_Read.l1 k l v 0 a0 a1 a2 a3 a4 a5 a6 a7 a8 a9) r := by
  refine Ev.step (fun k => ?_) h
  simp only [cards_Read.l1]
  rw [if_pos (by decide), show wrap64 (3 + 0) = 3 by kernel_rfl, if_pos (by decide), if_pos (by omega), hx, wrap_id (n := x - 1) (by omega) (by omega)]
  simp [show wrap64 1 = 1 by kernel_rfl]
theorem rset1 {l : List Int} {v : List Int} {x : Int} {r : C11} {a0 a1 a2 a3 a4 a5 a6 a7 a8 a9 : Int} (hv : v.length = 9) (hx : rd v 4 = x) (h0 : 0 ≤ x) (h1 : x < 4294967296) (h : Ev (fun k => cards_Read.l1 k l v 2 a0 a1 a2 a3 a4 (x - 1) a6 a7 a8 a9) r) : Ev (fun k => cards_Read.l1 k l v 1 a0 a1 a2 a3 a4 a5 a6 a7 a8 a9) r := by
  refine Ev.step (fun k => ?_) h
  simp only [cards_Read.l1]
  rw [if_pos (by decide), show wrap64 (3 + 1) = 4 by kernel_rfl, if_pos (by decide), if_pos (by omega), hx, wrap_id (n := x - 1) (by omega) (by omega)]
  simp [show wrap64 2 = 2 by kernel_rfl]
theorem rset2 {l : List Int} {v : List Int} {x : Int} {r : C11} {a0 a1 a2 a3 a4 a5 a6 a7 a8 a9 : Int} (hv : v.length = 9) (hx : rd v 5 = x) (h0 : 0 ≤ x) (h1 : x < 4294967296) (h : Ev (fun k => cards_Read.l1 k l v 3 a0 a1 a2 a3 a4 a5 (x - 1) a7 a8 a9) r) : Ev (fun k => cards_Read.l1 k l v 2 a0 a1 a2 a3 a4 a5 a6 a7 a8 a9) r := by
  refine Ev.step (fun k => ?_) h
  simp only [cards_Read.l1]
  rw [if_pos (by decide), show wrap64 (3 + 2) = 5 by kernel_rfl, if_pos (by decide), if_pos (by omega), hx, wrap_id (n := x - 1) (by omega) (by omega)]
  simp [show wrap64 3 = 3 by kernel_rfl]
theorem rset3 {l : List Int} {v : List Int} {x : Int} {r : C11} {a0 a1 a2 a3 a4 a5 a6 a7 a8 a9 : Int} (hv : v.length = 9) (hx : rd v 6 = x) (h0 : 0 ≤ x) (h1 : x < 4294967296) (h : Ev (fun k => cards_Read.l1 k l v 4 a0 a1 a2 a3 a4 a5 a6 (x - 1) a8 a9) r) : Ev (fun k => cards_Read.l1 k l v 3 a0 a1 a2 a3 a4 a5 a6 a7 a8 a9) r := by
  refine Ev.step (fun k => ?_) h
  simp only [cards_Read.l1]
  rw [if_pos (by decide), show wrap64 (3 + 3) = 6 by kernel_rfl, if_pos (by decide), if_pos (by omega), hx, wrap_id (n := x - 1) (by omega) (by omega)]
  simp [show wrap64 4 = 4 by kernel_rfl]
theorem rset4 {l : List Int} {v : List Int} {x : Int} {r : C11} {a0 a1 a2 a3 a4 a5 a6 a7 a8 a9 : Int} (hv : v.length = 9) (hx : rd v 7 = x) (h0 : 0 ≤ x) (h1 : x < 4294967296) (h : Ev (fun k => cards_Read.l1 k l v 5 a0 a1 a2 a3 a4 a5 a6 a7 (x - 1) a9) r) : Ev (fun k => cards_Read.l1 k l v 4 a0 a1 a2 a3 a4 a5 a6 a7 a8 a9) r := by
  refine Ev.step (fun k => ?_) h
  simp only [cards_Read.l1]
  rw [if_pos (by decide), show wrap64 (3 + 4) = 7 by kernel_rfl, if_pos (by decide), if_pos (by omega), hx, wrap_id (n := x - 1) (by omega) (by omega)]
  simp [show wrap64 5 = 5 by kernel_rfl]
theorem read_tail {l : List Int} (hl : l.length = 8) (n0 n1 n2 n4 n5 n6 n7 n8 n9 : Int) (q4 : 0 ≤ n4 ∧ n4 < 4294967296) (q5 : 0 ≤ n5 ∧ n5 < 4294967296) (q6 : 0 ≤ n6 ∧ n6 < 4294967296) (q7 : 0 ≤ n7 ∧ n7 < 4294967296) (q8 : 0 ≤ n8 ∧ n8 < 4294967296) (q9 : 0 ≤ n9 ∧ n9 < 4294967296) :
    Ev (fun k => cards_Read.l0 k l [n0, n1, n2, n4, n5, n6, n7, n8, n9] FL 9 9) (outR l n0 n1 n2 (rd l 1) (n4 - 1) (n5 - 1) (n6 - 1) (n7 - 1) (n8 - 1) (n9 - 1)) := by
  have f5 := rfinish l [n0, n1, n2, n4, n5, n6, n7, n8, n9] n0 n1 n2 (rd l 1) (n4 - 1) (n5 - 1) (n6 - 1) (n7 - 1) (n8 - 1) (n9 - 1)
  have f4 := rset4 (a8 := 0) rfl (x := n8) rfl (by omega) (by omega) f5
  have f3 := rset3 (a7 := 0) rfl (x := n7) rfl (by omega) (by omega) f4
  have f2 := rset2 (a6 := 0) rfl (x := n6) rfl (by omega) (by omega) f3
  have f1 := rset1 (a5 := 0) rfl (x := n5) rfl (by omega) (by omega) f2
  have f0 := rset0 (a4 := 0) rfl (x := n4) rfl (by omega) (by omega) f1
  have hL : ([n0, n1, n2, n4, n5, n6, n7, n8, n9].length : Int) - 1 = 8 := by simp
  have e8 : wrap64 (([n0, n1, n2, n4, n5, n6, n7, n8, n9].length : Int) - 1) = 8 := by
    rw [hL]
    exact wrap_id (by omega) (by omega)
  have r8 : rd [n0, n1, n2, n4, n5, n6, n7, n8, n9] 8 = n9 := rfl
  have e9 : wrap64 (rd [n0, n1, n2, n4, n5, n6, n7, n8, n9] 8 - 1) = n9 - 1 := by rw [r8]; exact wrap_id (by omega) (by omega)
  have g0 : (0 : Int) < ([n0, n1, n2, n4, n5, n6, n7, n8, n9].length : Int) := by simp
  have g1 : (1 : Int) < ([n0, n1, n2, n4, n5, n6, n7, n8, n9].length : Int) := by simp
  have g2 : (2 : Int) < ([n0, n1, n2, n4, n5, n6, n7, n8, n9].length : Int) := by simp
  have g8 : (8 : Int) < ([n0, n1, n2, n4, n5, n6, n7, n8, n9].length : Int) := by simp
  have r0 : rd [n0, n1, n2, n4, n5, n6, n7, n8, n9] 0 = n0 := rfl
  have r1 : rd [n0, n1, n2, n4, n5, n6, n7, n8, n9] 1 = n1 := rfl
  have r2 : rd [n0, n1, n2, n4, n5, n6, n7, n8, n9] 2 = n2 := rfl
  refine Ev.step (fun k => ?_) f0
  simp only [cards_Read.l0]
  rw [if_neg (by decide), if_pos g0, if_pos g1, if_pos g2, if_pos (by omega), e8, if_pos (by decide), if_pos g8, e9, r0, r1, r2]
theorem cast_lt {n : Nat} (h : n < 2 ^ 32) : 0 ≤ (n : Int) ∧ (n : Int) < 4294967296 := by omega
theorem Read_ev {l : List Int} (hl : l.length = 8) {w0 w2 w3 : Nat} (h0 : rd l 0 = (w0 : Int)) (h2 : rd l 2 = (w2 : Int)) (h3 : rd l 3 = (w3 : Int)) (b0 : w0 < 2 ^ 64) (b2 : w2 < 2 ^ 64) (b3 : w3 < 2 ^ 64) :
    Ev (fun k => cards_Read.f k l) (outR l ((getN w0 0 8 : Nat) : Int) ((getN w0 8 16 : Nat) : Int) ((getN w0 24 32 : Nat) : Int) (rd l 1) (((getN w2 0 16 : Nat) : Int) - 1) (((getN w2 16 16 : Nat) : Int) - 1) (((getN w2 32 16 : Nat) : Int) - 1) (((getN w2 48 16 : Nat) : Int) - 1) (((getN w3 0 16 : Nat) : Int) - 1) (((getN w3 16 16 : Nat) : Int) - 1)) := by
  refine Ev.congr (f := fun k => (cards_fields.f k).bind fun t134 => (cards_Read.l0 k l ([] : List Int) t134 (t134.length : Int) 0)) (fun k => by unfold cards_Read.f; rw [if_pos (by omega)]) (Ev.bind fields_ev ?_)
  have g := fun (w a b : Nat) (hb : b ≤ 32) => (Nat.lt_of_lt_of_le (getN_lt w a b) (Nat.pow_le_pow_right (by decide) hb) : getN w a b < 2 ^ 32)
  have q4 := g w2 0 16 (by omega)
  have q5 := g w2 16 16 (by omega)
  have q6 := g w2 32 16 (by omega)
  have q7 := g w2 48 16 (by omega)
  have q8 := g w3 0 16 (by omega)
  have q9 := g w3 16 16 (by omega)
  show Ev (fun k => cards_Read.l0 k l [] FL 9 ((0 : Nat) : Int)) _
  refine rround (i := 0) (by omega) hl (by simp) (p := 0) (w := w0) (a := 0) (b := 8) rfl (by omega) h0 b0 (by omega) (by omega) (by omega) ?_
  refine rround (i := 1) (by omega) hl (by simp) (p := 0) (w := w0) (a := 8) (b := 16) rfl (by omega) h0 b0 (by omega) (by omega) (by omega) ?_
  refine rround (i := 2) (by omega) hl (by simp) (p := 0) (w := w0) (a := 24) (b := 32) rfl (by omega) h0 b0 (by omega) (by omega) (by omega) ?_
  refine rround (i := 3) (by omega) hl (by simp) (p := 2) (w := w2) (a := 0) (b := 16) rfl (by omega) h2 b2 (by omega) (by omega) (by omega) ?_
  refine rround (i := 4) (by omega) hl (by simp) (p := 2) (w := w2) (a := 16) (b := 16) rfl (by omega) h2 b2 (by omega) (by omega) (by omega) ?_
  refine rround (i := 5) (by omega) hl (by simp) (p := 2) (w := w2) (a := 32) (b := 16) rfl (by omega) h2 b2 (by omega) (by omega) (by omega) ?_
  refine rround (i := 6) (by omega) hl (by simp) (p := 2) (w := w2) (a := 48) (b := 16) rfl (by omega) h2 b2 (by omega) (by omega) (by omega) ?_
  refine rround (i := 7) (by omega) hl (by simp) (p := 3) (w := w3) (a := 0) (b := 16) rfl (by omega) h3 b3 (by omega) (by omega) (by omega) ?_
  refine rround (i := 8) (by omega) hl (by simp) (p := 3) (w := w3) (a := 16) (b := 16) rfl (by omega) h3 b3 (by omega) (by omega) (by omega) ?_
  simp only [List.nil_append, List.cons_append]
  exact read_tail hl _ _ _ _ _ _ _ _ _ (cast_lt q4) (cast_lt q5) (cast_lt q6) (cast_lt q7) (cast_lt q8) (cast_lt q9)
theorem Read_no {l : List Int} (hl : l.length ≠ 8) : Ev (fun k => cards_Read.f k l) bad := Ev.congr (f := fun _ => some bad) (fun k => by unfold cards_Read.f; rw [if_neg (by omega)]; rfl) (Ev.now _)

/-! the document's own -/
end Go.Proofs.Ytdcmahndbmonbaa.Pure
