import Derived.Test.YtkbhilhefnahpaaGreatPrint0
import Derived.Test.YtkbhilhefnahpaaGreatPrint10
namespace Go.Proofs.YtkbhilhefnahpaaGreat.Print
open Go.RowKit Go.Proofs.YtkbhilhefnahpaaGreatW.PrintWords Go.Proofs.YtkbhilhefnahpaaGreatW.PrintLast Go.Proofs.YtkbhilhefnahpaaGreatW.PrintMore
attribute [local go_sem] yS yR Zq Zp yH yG Zb Za   -- for this text's walks alone
set_option linter.unusedVariables false
set_option linter.unusedSimpArgs false

/-! ### escritoireref06_Write: function 56 -/
def escritoireref06_Write.l0 : Nat → List Int → Int → Int → Int → Int → Int → Int → Int → Int → Int → Int → Int → Option (List Int × Int)
 | 0, _, _, _, _, _, _, _, _, _, _, _, _ => none
 | k + 1, x4, x5, JD, JC, JB, JA, Jy, Jw, Jv, Ju, Jr, Jt => if x5 ≥ 0 then (if 2 < (x4.length : Int) then (if x5 = 0 then (escritoireref06_Write.l0 k (x4.set (2 : Int).toNat (IntKind.u64.wrap ((IntKind.u64.wrap (65536 * (rd x4 2))) + (IntKind.u64.wrap (wrap64 (Jy + 1)))))) (wrap64 (x5 - 1)) JD JC JB JA Jy Jw Jv Ju Jr Jt) else (if x5 = 1 then (escritoireref06_Write.l0 k (x4.set (2 : Int).toNat (IntKind.u64.wrap ((IntKind.u64.wrap (65536 * (rd x4 2))) + (IntKind.u64.wrap (wrap64 (Jw + 1)))))) (wrap64 (x5 - 1)) JD JC JB JA Jy Jw Jv Ju Jr Jt) else (if x5 = 2 then (escritoireref06_Write.l0 k (x4.set (2 : Int).toNat (IntKind.u64.wrap ((IntKind.u64.wrap (65536 * (rd x4 2))) + (IntKind.u64.wrap (wrap64 (Jv + 1)))))) (wrap64 (x5 - 1)) JD JC JB JA Jy Jw Jv Ju Jr Jt) else (if x5 = 3 then (escritoireref06_Write.l0 k (x4.set (2 : Int).toNat (IntKind.u64.wrap ((IntKind.u64.wrap (65536 * (rd x4 2))) + (IntKind.u64.wrap (wrap64 (Ju + 1)))))) (wrap64 (x5 - 1)) JD JC JB JA Jy Jw Jv Ju Jr Jt) else (if x5 = 4 then (escritoireref06_Write.l0 k (x4.set (2 : Int).toNat (IntKind.u64.wrap ((IntKind.u64.wrap (65536 * (rd x4 2))) + (IntKind.u64.wrap (wrap64 (Jr + 1)))))) (wrap64 (x5 - 1)) JD JC JB JA Jy Jw Jv Ju Jr Jt) else (none)))))) else (none)) else (if 3 < (x4.length : Int) then (some ((x4.set (3 : Int).toNat (IntKind.u64.wrap ((IntKind.u64.wrap (wrap64 (Jr + 1))) + (IntKind.u64.wrap (65536 * (IntKind.u64.wrap (wrap64 (Jt + 1)))))))), 0)) else (none))
def escritoireref06_Write.f (k : Nat) (Jh : Int) (Jg : Int) (Jf : Int) (Je : Int) (Jn : Int) (Jm : Int) (Jl : Int) (Jk : Int) (Ji : Int) (Jj : Int) : Option (List Int × Int) := (escritoireref06_Right.f k Jh Jg Jf Je Jn Jm Jl Jk Ji Jj).bind fun G7 => (if G7 = true then (if 8 ≤ 35184372088832 then ((some (List.replicate 8 0 : List Int)).bind fun Jq => (if 0 < (Jq.length : Int) then (if 1 < (Jq.length : Int) then (escritoireref06_Write.l0 k ((Jq.set (0 : Int).toNat (IntKind.u64.wrap ((IntKind.u64.wrap ((IntKind.u64.wrap (Jh)) + (IntKind.u64.wrap (256 * (IntKind.u64.wrap (Jg)))))) + (IntKind.u64.wrap (16777216 * (IntKind.u64.wrap (Jf))))))).set (1 : Int).toNat Je) 3 Jh Jg Jf Je Jn Jm Jl Jk Ji Jj) else (none)) else (none))) else (none)) else (some (([] : List Int), 1)))
def escritoireref06_Write.T9 : Bool × List (List Nat × List Nat) := (true, [([], []), ([], []), ([1], [1]), ([2], [2]), ([3], [3]), ([], []), ([], []), ([6, 5], [5, 6]), ([7], [7]), ([8], [8]), ([9], [9]), ([4, 10], [4, 10]), ([0, 0, 1, 2, 3, 4, 5, 6, 7, 8, 9, 10, 11], [0]), ([12, 11, 0, 1, 2, 3, 4, 5, 6, 7, 8, 9, 10, 11], [11, 12])])
def escritoireref06_Write.B9 : List Nat := [0, 0, 2, 6, 14, 0, 0, 96, 224, 480, 992, 2046, 4095, 8191]
theorem escritoireref06_Write.tab9 : rtab .any (opsOf Tryz.f56 9) = escritoireref06_Write.T9 := by kernel_rfl
theorem escritoireref06_Write.bits9 : ZY escritoireref06_Write.T9.2 escritoireref06_Write.B9 = true := by kernel_rfl
set_option maxHeartbeats 8000000 in
set_option maxRecDepth 100000 in
theorem escritoireref06_Write.calls (k : Nat) (Jh : Int) (Jg : Int) (Jf : Int) (Je : Int) (Jn : Int) (Jm : Int) (Jl : Int) (Jk : Int) (Ji : Int) (Jj : Int) (r1 : List Int) (r2 : Int) (w : World) (h : escritoireref06_Write.f k Jh Jg Jf Je Jn Jm Jl Jk Ji Jj = some (r1, r2)) :
  Calls Tryz.prog 56 #[.agg #[.int .i64 Jh, .int .i64 Jg, .int .i64 Jf, .int .u64 Je, .int .i64 Jn, .int .i64 Jm, .int .i64 Jl, .int .i64 Jk, .int .i64 Ji, .int .i64 Jj]] w fun e w' => ∃ v0_ : Value, e = .returned (.tuple #[v0_, .int .i64 r2]) ∧ Kd.R (Kd.int .u64) 34 w' w.heap.size (fun _ => True) v0_ r1 ∧ Below w.heap.size w w' := by
 have hu37 := Tryz.underlying37
 have HB := ze.mk (Below.refl w.heap.size w)
 have H : ((escritoireref06_Right.f k Jh Jg Jf Je Jn Jm Jl Jk Ji Jj).bind fun G7 => (if G7 = true then (if 8 ≤ 35184372088832 then ((some (List.replicate 8 0 : List Int)).bind fun Jq => (if 0 < (Jq.length : Int) then (if 1 < (Jq.length : Int) then (escritoireref06_Write.l0 k ((Jq.set (0 : Int).toNat (IntKind.u64.wrap ((IntKind.u64.wrap ((IntKind.u64.wrap (Jh)) + (IntKind.u64.wrap (256 * (IntKind.u64.wrap (Jg)))))) + (IntKind.u64.wrap (16777216 * (IntKind.u64.wrap (Jf))))))).set (1 : Int).toNat Je) 3 Jh Jg Jf Je Jn Jm Jl Jk Ji Jj) else (none)) else (none))) else (none)) else (some (([] : List Int), 1)))) = some (r1, r2) := h
 clear h
 replace H := Option.bind_eq_some_iff.mp H
 obtain ⟨G7, A20, H⟩ := H
 replace H : (if G7 = true then (if 8 ≤ 35184372088832 then ((some (List.replicate 8 0 : List Int)).bind fun Jq => (if 0 < (Jq.length : Int) then (if 1 < (Jq.length : Int) then (escritoireref06_Write.l0 k ((Jq.set (0 : Int).toNat (IntKind.u64.wrap ((IntKind.u64.wrap ((IntKind.u64.wrap (Jh)) + (IntKind.u64.wrap (256 * (IntKind.u64.wrap (Jg)))))) + (IntKind.u64.wrap (16777216 * (IntKind.u64.wrap (Jf))))))).set (1 : Int).toNat Je) 3 Jh Jg Jf Je Jn Jm Jl Jk Ji Jj) else (none)) else (none))) else (none)) else (some (([] : List Int), 1))) = some (r1, r2) := H
 have A2 := ze.mk A20
 clear A20
 by_cases c3 : G7 = true
 ·subst c3
  have H1 : (if 8 ≤ 35184372088832 then ((some (List.replicate 8 0 : List Int)).bind fun Jq => (if 0 < (Jq.length : Int) then (if 1 < (Jq.length : Int) then (escritoireref06_Write.l0 k ((Jq.set (0 : Int).toNat (IntKind.u64.wrap ((IntKind.u64.wrap ((IntKind.u64.wrap (Jh)) + (IntKind.u64.wrap (256 * (IntKind.u64.wrap (Jg)))))) + (IntKind.u64.wrap (16777216 * (IntKind.u64.wrap (Jf))))))).set (1 : Int).toNat Je) 3 Jh Jg Jf Je Jn Jm Jl Jk Ji Jj) else (none)) else (none))) else (none)) = some (r1, r2) := by rw [if_pos rfl] at H; exact H
  clear H
  have H := H1
  clear H1
  have H1 : ((some (List.replicate 8 0 : List Int)).bind fun Jq => (if 0 < (Jq.length : Int) then (if 1 < (Jq.length : Int) then (escritoireref06_Write.l0 k ((Jq.set (0 : Int).toNat (IntKind.u64.wrap ((IntKind.u64.wrap ((IntKind.u64.wrap (Jh)) + (IntKind.u64.wrap (256 * (IntKind.u64.wrap (Jg)))))) + (IntKind.u64.wrap (16777216 * (IntKind.u64.wrap (Jf))))))).set (1 : Int).toNat Je) 3 Jh Jg Jf Je Jn Jm Jl Jk Ji Jj) else (none)) else (none))) = some (r1, r2) := by rw [if_pos (by decide)] at H; exact H
  clear H
  have H := H1
  clear H1
  obtain ⟨Jq, JQ⟩ : ∃ y_ : List Int, y_ = (List.replicate 8 0) := ⟨_, rfl⟩
  replace H : (if 0 < (Jq.length : Int) then (if 1 < (Jq.length : Int) then (escritoireref06_Write.l0 k ((Jq.set (0 : Int).toNat (IntKind.u64.wrap ((IntKind.u64.wrap ((IntKind.u64.wrap (Jh)) + (IntKind.u64.wrap (256 * (IntKind.u64.wrap (Jg)))))) + (IntKind.u64.wrap (16777216 * (IntKind.u64.wrap (Jf))))))).set (1 : Int).toNat Je) 3 Jh Jg Jf Je Jn Jm Jl Jk Ji Jj) else (none)) else (none)) = some (r1, r2) := by first | (rw [JQ]; with_reducible exact H) | (have H2_ := (Option.bind_some _ _).symm.trans H; rw [JQ]; with_reducible exact H2_) | (have H2_ := (Option.bind_some _ _).symm.trans H; with_reducible exact H2_) | with_reducible exact H | (rw [JQ]; exact H) | exact H
  have DC := ze.mk JQ
  clear JQ
  by_cases c4 : 0 < (Jq.length : Int)
  ·rw [if_pos c4] at H
   have c4b0 : decide (0 < (Jq.length : Int)) = true := decide_eq_true c4
   have c4b1 : decide (0 < Jq.length) = true := decide_eq_true (by omega)
   clear c4
   obtain ⟨DF, JP⟩ : ∃ y_ : List Int, y_ = (Jq.set (0 : Int).toNat (IntKind.u64.wrap ((IntKind.u64.wrap ((IntKind.u64.wrap (Jh)) + (IntKind.u64.wrap (256 * (IntKind.u64.wrap (Jg)))))) + (IntKind.u64.wrap (16777216 * (IntKind.u64.wrap (Jf))))))) := ⟨_, rfl⟩
   replace H : (if 1 < (Jq.length : Int) then (escritoireref06_Write.l0 k (DF.set (1 : Int).toNat Je) 3 Jh Jg Jf Je Jn Jm Jl Jk Ji Jj) else (none)) = some (r1, r2) := by first | (rw [JP]; with_reducible exact H) | (have H2_ := (Option.bind_some _ _).symm.trans H; rw [JP]; with_reducible exact H2_) | (have H2_ := (Option.bind_some _ _).symm.trans H; with_reducible exact H2_) | with_reducible exact H | (rw [JP]; exact H) | exact H
   have BV := ze.mk JP
   clear JP
   by_cases c6 : 1 < (Jq.length : Int)
   ·rw [if_pos c6] at H
    have c6b0 : decide (1 < (Jq.length : Int)) = true := decide_eq_true c6
    have c6b1 : decide (1 < Jq.length) = true := decide_eq_true (by omega)
    clear c6
    obtain ⟨DD, JO⟩ : ∃ y_ : List Int, y_ = (DF.set (1 : Int).toNat Je) := ⟨_, rfl⟩
    replace H : (escritoireref06_Write.l0 k DD 3 Jh Jg Jf Je Jn Jm Jl Jk Ji Jj) = some (r1, r2) := by first | (rw [JO]; with_reducible exact H) | (have H2_ := (Option.bind_some _ _).symm.trans H; rw [JO]; with_reducible exact H2_) | (have H2_ := (Option.bind_some _ _).symm.trans H; with_reducible exact H2_) | with_reducible exact H | (rw [JO]; exact H) | exact H
    have BU := ze.mk JO
    clear JO
    have H' := ze.mk H
    clear H
    go_enter Tryz.func56, Tryz.ntmps56
    go_wp2_with (first | ((with_reducible refine zD (N := 1) rfl ?_); refine zC ?hg (N := 1) ?hd (cs := #[.int .i64 Jh, .int .i64 Jg, .int .i64 Jf, .int .u64 Je, .int .i64 Jn, .int .i64 Jm, .int .i64 Jl, .int .i64 Jk, .int .i64 Ji, .int .i64 Jj]) (t := 37) ?hr ?_; (case hd => rfl); (case hg => rfl); (case hr => first | (go_simp; done) | (go_simp; rfl)); intro Jb hg w8 hbox hb; have n0_ := ze.mk (zu (by repeat (first | (with_reducible first | exact HB.o | apply zl | apply zf | apply zk) | exact HB.o)) hb); have n1_ := ze.mk (hbox); have n2_ := ze.mk ((by rw [hg]; exact (zt (by repeat (first | (with_reducible first | exact HB.o | apply zl | apply zf | apply zk) | exact HB.o))) : w.heap.size ≤ Jb)); have n3_ := ze.mk ((by rw [hg]; exact (zt (by repeat (first | (with_reducible first | exact HB.o | apply zl | apply zf | apply zk) | exact HB.o))) : w.heap.size ≤ Jb)); clear HB; have HB := n0_; have Ja := n1_; have Jag := n2_; have Jz := n3_; clear n0_ n1_ n2_ n3_; clear hb hbox hg; have Dz : w8.cell? ⟨Jb, 0, none⟩ = some (.int .i64 Jh) := (zb Ja.o 0).trans rfl; have Dy : w8.cell? ⟨Jb, 1, none⟩ = some (.int .i64 Jg) := (zb Ja.o 1).trans rfl; have Dx : w8.cell? ⟨Jb, 2, none⟩ = some (.int .i64 Jf) := (zb Ja.o 2).trans rfl; have Dw : w8.cell? ⟨Jb, 3, none⟩ = some (.int .u64 Je) := (zb Ja.o 3).trans rfl; have Dv : w8.cell? ⟨Jb, 4, none⟩ = some (.int .i64 Jn) := (zb Ja.o 4).trans rfl; have Du : w8.cell? ⟨Jb, 5, none⟩ = some (.int .i64 Jm) := (zb Ja.o 5).trans rfl; have Dt : w8.cell? ⟨Jb, 6, none⟩ = some (.int .i64 Jl) := (zb Ja.o 6).trans rfl; have Dr : w8.cell? ⟨Jb, 7, none⟩ = some (.int .i64 Jk) := (zb Ja.o 7).trans rfl; have Dq : w8.cell? ⟨Jb, 8, none⟩ = some (.int .i64 Ji) := (zb Ja.o 8).trans rfl; have Dp : w8.cell? ⟨Jb, 9, none⟩ = some (.int .i64 Jj) := (zb Ja.o 9).trans rfl; have Dl := za Ja.o 0; have Dk := za Ja.o 1; have Dj := za Ja.o 2; have Di := za Ja.o 3; have Dh := za Ja.o 4; have Df := za Ja.o 5; have Dc := za Ja.o 6; have Db := za Ja.o 7; have Da := za Ja.o 8; have G9 := za Ja.o 9) | ((with_reducible refine zN (f := 74) rfl ?_); refine yh (some 7) rfl rfl Tryz.func74 (by kernel_rfl) rfl #[.agg #[.int .i64 Jh, .int .i64 Jg, .int .i64 Jf, .int .u64 Je, .int .i64 Jn, .int .i64 Jm, .int .i64 Jl, .int .i64 Jk, .int .i64 Ji, .int .i64 Jj]] rfl (by (try simp only [List.map_toArray, List.map_cons, List.map_nil]); first | done | rfl | (simp only [List.length_drop, List.length_take]; rfl)) ?_; (with_reducible refine (escritoireref06_Right.calls k Jh Jg Jf Je Jn Jm Jl Jk Ji Jj true _ A2.o).mono ?_); rintro e w10 ⟨rfl, hb⟩; refine ⟨_, rfl, ?_⟩; have n0_ := ze.mk (zK (g := Jb) (o := .cells #[.int .i64 Jh, .int .i64 Jg, .int .i64 Jf, .int .u64 Je, .int .i64 Jn, .int .i64 Jm, .int .i64 Jl, .int .i64 Jk, .int .i64 Ji, .int .i64 Jj] 37 (0, 0)) (by (with_reducible repeat (first | refine zg ?_ _ | refine zi ?_ | refine zh ?_ _)); exact Ja.o) hb); have n1_ := ze.mk (zu (by repeat (first | (with_reducible first | exact HB.o | apply zl | apply zf | apply zk | refine zm ?_ Jz.o) | exact HB.o)) hb); clear Ja; clear HB; have Ja := n0_; have HB := n1_; clear n0_ n1_; (try clear hb); (try clear hb2); (try clear hk); (try clear hi)) | ((with_reducible refine zD (N := 9) rfl ?_); refine Kd.YX (Kd.int .u64) _ 34 rfl (N := 9) rfl 24 _ _ rfl 8 rfl rfl Tryz.underlying24 (.int .u64 0) 8 YW rfl (by decide) (by omega) 0 (ok := fun _ => True) (okp := fun _ => True) rfl (fun _ hk => hk) trivial (by omega) (by omega) (Below.refl _ _) (Nat.le_refl _) ?_; intro v243 w11 G8 hb hg_ hnew_; clear hg_ hnew_; (first | rw [← DC.o] at G8 | (simp only [Int.reduceToNat] at G8; rw [← DC.o] at G8)); have n0_ := ze.mk (Kd.yf G8 (zt (by repeat (first | (with_reducible first | exact HB.o | apply zl | apply zf | apply zk | refine zm ?_ Jz.o) | exact HB.o)))); have n1_ := ze.mk (zK (g := Jb) (o := .cells #[.int .i64 Jh, .int .i64 Jg, .int .i64 Jf, .int .u64 Je, .int .i64 Jn, .int .i64 Jm, .int .i64 Jl, .int .i64 Jk, .int .i64 Ji, .int .i64 Jj] 37 (0, 0)) (by (with_reducible repeat (first | refine zg ?_ _ | refine zi ?_ | refine zh ?_ _)); exact Ja.o) hb); have n2_ := ze.mk (zu (by repeat (first | (with_reducible first | exact HB.o | apply zl | apply zf | apply zk | refine zm ?_ Jz.o) | exact HB.o)) hb); clear Ja; clear HB; have Js := n0_; have Ja := n1_; have HB := n2_; clear n0_ n1_ n2_; clear hb G8; have G5 : w11.cell? ⟨Jb, 0, none⟩ = some (.int .i64 Jh) := (zb Ja.o 0).trans rfl; have GZ : w11.cell? ⟨Jb, 1, none⟩ = some (.int .i64 Jg) := (zb Ja.o 1).trans rfl; have GY : w11.cell? ⟨Jb, 2, none⟩ = some (.int .i64 Jf) := (zb Ja.o 2).trans rfl; have GX : w11.cell? ⟨Jb, 3, none⟩ = some (.int .u64 Je) := (zb Ja.o 3).trans rfl; have GV : w11.cell? ⟨Jb, 4, none⟩ = some (.int .i64 Jn) := (zb Ja.o 4).trans rfl; have GU : w11.cell? ⟨Jb, 5, none⟩ = some (.int .i64 Jm) := (zb Ja.o 5).trans rfl; have GR : w11.cell? ⟨Jb, 6, none⟩ = some (.int .i64 Jl) := (zb Ja.o 6).trans rfl; have GQ : w11.cell? ⟨Jb, 7, none⟩ = some (.int .i64 Jk) := (zb Ja.o 7).trans rfl; have GM : w11.cell? ⟨Jb, 8, none⟩ = some (.int .i64 Ji) := (zb Ja.o 8).trans rfl; have GL : w11.cell? ⟨Jb, 9, none⟩ = some (.int .i64 Jj) := (zb Ja.o 9).trans rfl; have Gv := za Ja.o 0; have Gu := za Ja.o 1; have Gt := za Ja.o 2; have Gs := za Ja.o 3; have Gr := za Ja.o 4; have Gq := za Ja.o 5; have Gp := za Ja.o 6; have Gn := za Ja.o 7; have Gm := za Ja.o 8; have Gl := za Ja.o 9; have p5 : 0 ≤ (0 : Int) := (by omega); have q5 : (0 : Int) < ((Jq.length : Int) : Int) := of_decide_eq_true (by first | (with_reducible assumption) | assumption); have qi5 : (0 < Jq.length) = True := eq_true (by omega); obtain ⟨go5, co5, eo5, gb5, gl5, cl5, HG5⟩ := Kd.Yh Js.o (by omega); (first | cases eo5 | (injection eo5 with ea_ en_ ec_; (first | subst ea_ | (injection ea_ with ea_; subst ea_)); subst ec_; clear en_)); have GB5 := ze.mk gb5; have GG5 := ze.mk HG5; clear gb5 gl5 HG5; obtain ⟨J8, Dn⟩ := Kd.zY 0 Js.o (0 : Int) p5 q5; (try rw [show ((0 : Int)).toNat = 0 from rfl] at J8); (try simp only [Nat.reduceMul, Nat.zero_mul, Nat.zero_add, Nat.reduceAdd] at J8); (try rw [show ((0 : Int)).toNat = 0 from rfl] at Dn); (try simp only [Nat.reduceMul, Nat.zero_mul, Nat.zero_add, Nat.reduceAdd] at Dn); replace p5 := eq_true p5; replace q5 := eq_true q5; obtain ⟨hy14_, hz14_⟩ := Kd.zY 0 Js.o (0 : Int) (by omega) (of_decide_eq_true (by first | (with_reducible assumption) | assumption)); (try simp only [Int.reduceToNat, Int.toNat_zero, Int.toNat_ofNat, Nat.reduceMul, Nat.zero_mul, Nat.zero_add] at hy14_ hz14_); (try rw [show ((0 : Int)).toNat = 0 from rfl] at hy14_); (try rw [show ((0 : Int)).toNat = 0 from rfl] at hz14_); have Jaf := Kd.Zn Js.o (0 : Int) (IntKind.u64.wrap ((IntKind.u64.wrap ((IntKind.u64.wrap (Jh)) + (IntKind.u64.wrap (256 * (IntKind.u64.wrap (Jg)))))) + (IntKind.u64.wrap (16777216 * (IntKind.u64.wrap (Jf))))))) | ((with_reducible refine zJ (t := 34) (p := 24) rfl ?_); refine zH (t := 34) (p := 24) (v := ?vo_w15) (w1 := (w11.setCell ⟨go5, (0 : Int).toNat, none⟩ (.int .u64 (IntKind.u64.wrap ((IntKind.u64.wrap ((IntKind.u64.wrap (Jh)) + (IntKind.u64.wrap (256 * (IntKind.u64.wrap (Jg)))))) + (IntKind.u64.wrap (16777216 * (IntKind.u64.wrap (Jf))))))))) ?hg ?ho ?hn ?hr ?_; (case ho => rfl); (case hg => rfl); (case hn => rfl); (case hr => first | (go_simp; done) | (go_simp; rfl)); intro w15 hw; have hg : w11.grownBy w15 (some go5) := (by rw [hw]; exact Jaf.2); have hp_ : Kd.R (Kd.int .u64) 34 w15 w.heap.size (fun _ => True) (.slice (some ⟨go5, 0, none⟩) Jq.length co5) DF := (by rw [hw, BV.o]; exact Jaf.1); clear Jaf; have n0_ := ze.mk (yA (g := Jb) (o := .cells #[.int .i64 Jh, .int .i64 Jg, .int .i64 Jf, .int .u64 Je, .int .i64 Jn, .int .i64 Jm, .int .i64 Jl, .int .i64 Jk, .int .i64 Ji, .int .i64 Jj] 37 (0, 0)) (by (with_reducible repeat (first | refine zg ?_ _ | refine zi ?_ | refine zh ?_ _)); exact Ja.o) hg (Kd.R_ne Js.o Ja.o (by decide))); have n1_ := ze.mk (hp_); have n2_ := ze.mk ((by rw [hw]; exact zm (HB.o) GB5.o : Below w.heap.size w w15)); clear Ja; clear Js; clear HB; have Ja := n0_; have Js := n1_; have HB := n2_; clear n0_ n1_ n2_; clear hg hw hp_; have GK : w15.cell? ⟨Jb, 0, none⟩ = some (.int .i64 Jh) := (zb Ja.o 0).trans rfl; have GJ : w15.cell? ⟨Jb, 1, none⟩ = some (.int .i64 Jg) := (zb Ja.o 1).trans rfl; have GI : w15.cell? ⟨Jb, 2, none⟩ = some (.int .i64 Jf) := (zb Ja.o 2).trans rfl; have GH : w15.cell? ⟨Jb, 3, none⟩ = some (.int .u64 Je) := (zb Ja.o 3).trans rfl; have GG : w15.cell? ⟨Jb, 4, none⟩ = some (.int .i64 Jn) := (zb Ja.o 4).trans rfl; have GD : w15.cell? ⟨Jb, 5, none⟩ = some (.int .i64 Jm) := (zb Ja.o 5).trans rfl; have Gz : w15.cell? ⟨Jb, 6, none⟩ = some (.int .i64 Jl) := (zb Ja.o 6).trans rfl; have Gy : w15.cell? ⟨Jb, 7, none⟩ = some (.int .i64 Jk) := (zb Ja.o 7).trans rfl; have Gx : w15.cell? ⟨Jb, 8, none⟩ = some (.int .i64 Ji) := (zb Ja.o 8).trans rfl; have Gw : w15.cell? ⟨Jb, 9, none⟩ = some (.int .i64 Jj) := (zb Ja.o 9).trans rfl; have Gj := za Ja.o 0; have Gi := za Ja.o 1; have Gh := za Ja.o 2; have Gg := za Ja.o 3; have Gf := za Ja.o 4; have Gd := za Ja.o 5; have Gc := za Ja.o 6; have Gb := za Ja.o 7; have Ga := za Ja.o 8; have J9 := za Ja.o 9; have p7 : 0 ≤ (1 : Int) := (by omega); have q7 : (1 : Int) < ((Jq.length : Int) : Int) := of_decide_eq_true (by first | (with_reducible assumption) | assumption); have qi7 : (1 < Jq.length) = True := eq_true (by omega); obtain ⟨J7, Dm⟩ := Kd.zY 0 Js.o (1 : Int) p7 q7; (try rw [show ((1 : Int)).toNat = 1 from rfl] at J7); (try simp only [Nat.reduceMul, Nat.zero_mul, Nat.zero_add, Nat.reduceAdd] at J7); (try rw [show ((1 : Int)).toNat = 1 from rfl] at Dm); (try simp only [Nat.reduceMul, Nat.zero_mul, Nat.zero_add, Nat.reduceAdd] at Dm); replace p7 := eq_true p7; replace q7 := eq_true q7; obtain ⟨hy17_, hz17_⟩ := Kd.zY 0 Js.o (1 : Int) (by omega) (of_decide_eq_true (by first | (with_reducible assumption) | assumption)); (try simp only [Int.reduceToNat, Int.toNat_zero, Int.toNat_ofNat, Nat.reduceMul, Nat.zero_mul, Nat.zero_add] at hy17_ hz17_); (try rw [show ((1 : Int)).toNat = 1 from rfl] at hy17_); (try rw [show ((1 : Int)).toNat = 1 from rfl] at hz17_); have Jae := Kd.Zn Js.o (1 : Int) Je) | ((with_reducible refine zJ (t := 34) (p := 28) rfl ?_); refine zH (t := 34) (p := 28) (v := ?vo_w18) (w1 := (w15.setCell ⟨go5, (1 : Int).toNat, none⟩ (.int .u64 Je))) ?hg ?ho ?hn ?hr ?_; (case ho => rfl); (case hg => rfl); (case hn => rfl); (case hr => first | (go_simp; done) | (go_simp; rfl)); intro w18 hw; have hg : w15.grownBy w18 (some go5) := (by rw [hw]; exact Jae.2); have hp_ : Kd.R (Kd.int .u64) 34 w18 w.heap.size (fun _ => True) (.slice (some ⟨go5, 0, none⟩) Jq.length co5) DD := (by rw [hw, BU.o]; exact Jae.1); clear Jae; have n0_ := ze.mk (yA (g := Jb) (o := .cells #[.int .i64 Jh, .int .i64 Jg, .int .i64 Jf, .int .u64 Je, .int .i64 Jn, .int .i64 Jm, .int .i64 Jl, .int .i64 Jk, .int .i64 Ji, .int .i64 Jj] 37 (0, 0)) (by (with_reducible repeat (first | refine zg ?_ _ | refine zi ?_ | refine zh ?_ _)); exact Ja.o) hg (Kd.R_ne Js.o Ja.o (by decide))); have n1_ := ze.mk (hp_); have n2_ := ze.mk ((by rw [hw]; exact zm (HB.o) GB5.o : Below w.heap.size w w18)); clear Ja; clear Js; clear HB; have Ja := n0_; have Js := n1_; have HB := n2_; clear n0_ n1_ n2_; clear hg hw hp_))
    go_loopg [5] k (fun kq v5 w' => ∃ (Jd : List Int) (JH : Int), v5 = .int .i64 JH ∧ ze (escritoireref06_Write.l0 kq Jd JH Jh Jg Jf Je Jn Jm Jl Jk Ji Jj = some (r1, r2)) ∧ ze (kq ≤ k) ∧ ze (Kd.R (Kd.int .u64) 34 w' w.heap.size (fun _ => True) (.slice (some ⟨go5, 0, none⟩) Jq.length co5) Jd) ∧ ze (w'.heap[Jb]? = some (.cells #[.int .i64 Jh, .int .i64 Jg, .int .i64 Jf, .int .u64 Je, .int .i64 Jn, .int .i64 Jm, .int .i64 Jl, .int .i64 Jk, .int .i64 Ji, .int .i64 Jj] 37 (0, 0))) ∧ ze (Below w.heap.size w w'))
    case atStart => exact ⟨(DD), (3), (by first | rfl | (simp; done) | (simp [*]; done) | kernel_rfl), H', ⟨Nat.le_refl _⟩, ⟨by (with_reducible repeat (first | apply Kd.zz | apply Kd.zA | apply Kd.zF)); exact Js.o⟩, ⟨by (with_reducible repeat (first | refine zg ?_ _ | refine zi ?_ | refine zh ?_ _)); exact Ja.o⟩, ⟨by repeat (first | (with_reducible first | exact HB.o | apply zl | apply zf | apply zk | refine zm ?_ Jz.o) | exact HB.o)⟩⟩
    case round =>
     clear H'
     try clear p2
     try clear c3
     try clear c4
     try clear c4b0
     try clear c4b1
     try clear c5
     try clear p5
     try clear q5
     try clear hx5
     try clear qi5
     try clear hf5
     try clear c6
     try clear c6b0
     try clear c6b1
     try clear c7
     try clear p7
     try clear q7
     try clear hx7
     try clear qi7
     try clear hf7
     try clear G5
     try clear GZ
     try clear GY
     try clear GX
     try clear GV
     try clear GU
     try clear GR
     try clear GQ
     try clear GM
     try clear GL
     try clear GK
     try clear GJ
     try clear GI
     try clear GH
     try clear GG
     try clear GD
     try clear Gz
     try clear Gy
     try clear Gx
     try clear Gw
     try clear Dz
     try clear Dy
     try clear Dx
     try clear Dw
     try clear Dv
     try clear Du
     try clear Dt
     try clear Dr
     try clear Dq
     try clear Dp
     try clear Gv
     try clear Gu
     try clear Gt
     try clear Gs
     try clear Gr
     try clear Gq
     try clear Gp
     try clear Gn
     try clear Gm
     try clear Gl
     try clear Gj
     try clear Gi
     try clear Gh
     try clear Gg
     try clear Gf
     try clear Gd
     try clear Gc
     try clear Gb
     try clear Ga
     try clear J9
     try clear Dl
     try clear Dk
     try clear Dj
     try clear Di
     try clear Dh
     try clear Df
     try clear Dc
     try clear Db
     try clear Da
     try clear G9
     try clear J8
     try clear J7
     try clear p5
     try clear p7
     try clear q5
     try clear q7
     obtain ⟨Jd, JH, rfl, HA, HK1, Jo, Ja, HB⟩ := hrel
     have Jp := (Kd.zQ Jo.o).1
     rw [Jp] at Jo
     (try simp only [Jp])
     (try simp only [Jp] at Ja)
     cases gk with
     | zero => exact absurd HA.o (by simp [escritoireref06_Write.l0])
     | succ k1 =>
      have H := HA.o
      clear HA
      simp only [escritoireref06_Write.l0] at H
      by_cases c19 : JH ≥ 0
      ·rw [if_pos c19] at H
       have BL : decide (0 ≤ JH) = true := decide_eq_true c19
       clear c19
       by_cases c20 : 2 < (Jd.length : Int)
       ·rw [if_pos c20] at H
        have BJ : decide (2 < (Jd.length : Int)) = true := decide_eq_true c20
        (try (have BI := BJ; simp only [Jp] at BI))
        have c20b1 : decide (2 < Jd.length) = true := decide_eq_true (by omega)
        clear c20
        by_cases c21 : JH = 0
        ·subst c21
         have H1 : (escritoireref06_Write.l0 k1 (Jd.set (2 : Int).toNat (IntKind.u64.wrap ((IntKind.u64.wrap (65536 * (rd Jd 2))) + (IntKind.u64.wrap (wrap64 (Jn + 1)))))) (wrap64 (0 - 1)) Jh Jg Jf Je Jn Jm Jl Jk Ji Jj) = some (r1, r2) := by rw [if_pos rfl] at H; exact H
         clear H
         have H := H1
         clear H1
         obtain ⟨y248, JN⟩ : ∃ y_ : List Int, y_ = (Jd.set (2 : Int).toNat (IntKind.u64.wrap ((IntKind.u64.wrap (65536 * (rd Jd 2))) + (IntKind.u64.wrap (wrap64 (Jn + 1)))))) := ⟨_, rfl⟩
         replace H : (escritoireref06_Write.l0 k1 y248 (wrap64 (0 - 1)) Jh Jg Jf Je Jn Jm Jl Jk Ji Jj) = some (r1, r2) := by first | (rw [JN]; with_reducible exact H) | (have H2_ := (Option.bind_some _ _).symm.trans H; rw [JN]; with_reducible exact H2_) | (have H2_ := (Option.bind_some _ _).symm.trans H; with_reducible exact H2_) | with_reducible exact H | (rw [JN]; exact H) | exact H
         have BS := ze.mk JN
         clear JN
         have H' := ze.mk H
         clear H
         try go_wp2
         have n0_ := ze.mk (Kd.zF Jo.o)
         have n1_ := ze.mk (zi Ja.o)
         have n2_ := ze.mk (zk HB.o)
         clear Jo
         clear Ja
         clear HB
         have Jo := n0_
         have Ja := n1_
         have HB := n2_
         clear n0_ n1_ n2_
         have JF : 0 ≤ (2 : Int) := (by omega)
         have JE : 2 < (Jd.length : Int) := of_decide_eq_true (by first | (with_reducible assumption) | assumption)
         obtain ⟨JG, e247, Jc⟩ := Kd.zX (Kd.zQ Jo.o).2.2 2 JF JE
         obtain rfl : (⟨go5, 0, none⟩ : Addr) = JG := (by injection e247)
         (first | simp only [add_plain] at Jc | simp only [ZV] at Jc | simp only [Addr.add, Nat.zero_add] at Jc | skip)
         have J4 : (2 < Jd.length) = True := eq_true (by omega)
         (try rw [show ((2 : Int)).toNat = 2 from rfl] at Jc)
         replace JF := eq_true JF
         replace JE := eq_true JE
         have p22 : 0 ≤ (2 : Int) := (by omega)
         have q22 : (2 : Int) < ((Jd.length : Int) : Int) := of_decide_eq_true (by first | (with_reducible assumption) | assumption)
         have qi22 : (2 < Jd.length) = True := eq_true (by omega)
         obtain ⟨JW, J3⟩ := Kd.zY 0 Jo.o (2 : Int) p22 q22
         (try rw [show ((2 : Int)).toNat = 2 from rfl] at JW)
         (try simp only [Nat.reduceMul, Nat.zero_mul, Nat.zero_add, Nat.reduceAdd] at JW)
         (try rw [show ((2 : Int)).toNat = 2 from rfl] at J3)
         (try simp only [Nat.reduceMul, Nat.zero_mul, Nat.zero_add, Nat.reduceAdd] at J3)
         replace p22 := eq_true p22
         replace q22 := eq_true q22
         have Jad := Kd.R_putn Jo.o (2 : Int) (IntKind.u64.wrap ((IntKind.u64.wrap (65536 * (rd Jd 2))) + (IntKind.u64.wrap (wrap64 (Jn + 1)))))
         rw [← BS.o] at Jad
         have HQ24 := ze.mk Jad
         clear Jad
         refine Yu (n := 14) (S := fun w' => w'.cell? ⟨Jb, 0, none⟩ = some (.int .i64 Jh) ∧ w'.cell? ⟨Jb, 1, none⟩ = some (.int .i64 Jg) ∧ w'.cell? ⟨Jb, 2, none⟩ = some (.int .i64 Jf) ∧ w'.cell? ⟨Jb, 3, none⟩ = some (.int .u64 Je) ∧ w'.cell? ⟨Jb, 4, none⟩ = some (.int .i64 Jn) ∧ w'.cell? ⟨Jb, 5, none⟩ = some (.int .i64 Jm) ∧ w'.cell? ⟨Jb, 6, none⟩ = some (.int .i64 Jl) ∧ w'.cell? ⟨Jb, 7, none⟩ = some (.int .i64 Jk) ∧ w'.cell? ⟨Jb, 8, none⟩ = some (.int .i64 Ji) ∧ w'.cell? ⟨Jb, 9, none⟩ = some (.int .i64 Jj) ∧ w'.cell? ⟨go5, 2, none⟩ = some (.int .u64 (rd Jd 2))) (ds := [13]) #[false, false, false, false, false, false, false, false, false, false, false, false, false, false] (by kernel_rfl) rfl rfl ⟨(zb Ja.o 0).trans rfl, (zb Ja.o 1).trans rfl, (zb Ja.o 2).trans rfl, (zb Ja.o 3).trans rfl, (zb Ja.o 4).trans rfl, (zb Ja.o 5).trans rfl, (zb Ja.o 6).trans rfl, (zb Ja.o 7).trans rfl, (zb Ja.o 8).trans rfl, (zb Ja.o 9).trans rfl, Jc⟩ (fun hHeld => ?_); refine Zu escritoireref06_Write.tab9 escritoireref06_Write.bits9 (fun HT_ HW_ => ?_)
         generalize wr.drew = w23 at Jo Ja HB HQ24 J3 JW Jc hHeld ⊢
         refine pure_ (i := 0) (N := some 33) (v := ?_) (a' := ?_) #[true, false, false, false, false, false, false, false, false, false, false, false, false, false] rfl rfl (zO HT_.o (by kernel_rfl)) (fun _ _ _ h => h) (Or.inl ⟨by rfl, ?_⟩) ?_ ?_
         rotate_left
         ·intro w'
          go_simp
          with_reducible rfl
         rotate_left
         ·simp only [Act.put, List.setIfInBounds_toArray, List.set_cons_zero, List.set_cons_succ, i64_w, i32_w]
          rfl
         refine pure_ (i := 1) (N := some 34) (v := ?_) (a' := ?_) #[true, true, false, false, false, false, false, false, false, false, false, false, false, false] rfl rfl (zO HT_.o (by kernel_rfl)) (fun _ _ _ h => h) (Or.inl ⟨by rfl, ?_⟩) ?_ ?_
         rotate_left
         ·intro w'
          go_simp
          with_reducible rfl
         rotate_left
         ·simp only [Act.put, List.setIfInBounds_toArray, List.set_cons_zero, List.set_cons_succ, i64_w, i32_w]
          rfl
         refine pure_ (i := 2) (N := some 35) (v := ?_) (a' := ?_) #[true, true, true, false, false, false, false, false, false, false, false, false, false, false] rfl rfl (zO HT_.o (by kernel_rfl)) (fun _ _ _ h => h) (Or.inl ⟨by rfl, ?_⟩) ?_ ?_
         rotate_left
         ·intro w'
          go_simp
          with_reducible rfl
         rotate_left
         ·simp only [Act.put, List.setIfInBounds_toArray, List.set_cons_zero, List.set_cons_succ, i64_w, i32_w]
          rfl
         refine pure_ (i := 5) (N := some 38) (v := ?_) (a' := ?_) #[true, true, true, false, false, true, false, false, false, false, false, false, false, false] rfl rfl (zO HT_.o (by kernel_rfl)) (fun _ _ _ h => h) (Or.inl ⟨by rfl, ?_⟩) ?_ ?_
         rotate_left
         ·intro w'
          go_simp
          with_reducible rfl
         rotate_left
         ·simp only [Act.put, List.setIfInBounds_toArray, List.set_cons_zero, List.set_cons_succ, i64_w, i32_w]
          rfl
         refine pure_ (i := 6) (N := some 39) (v := ?_) (a' := ?_) #[true, true, true, false, false, true, true, false, false, false, false, false, false, false] rfl rfl (zO HT_.o (by kernel_rfl)) (fun _ _ _ h => h) (Or.inl ⟨by rfl, ?_⟩) ?_ ?_
         rotate_left
         ·intro w'
          go_simp
          with_reducible rfl
         rotate_left
         ·simp only [Act.put, List.setIfInBounds_toArray, List.set_cons_zero, List.set_cons_succ, i64_w, i32_w]
          rfl
         refine pure_ (i := 7) (N := some 40) (v := ?_) (a' := ?_) #[true, true, true, false, false, true, true, true, false, false, false, false, false, false] rfl rfl (zO HT_.o (by kernel_rfl)) (fun _ _ _ h => h) (Or.inl ⟨by rfl, ?_⟩) ?_ ?_
         rotate_left
         ·intro w'
          go_simp
          with_reducible rfl
         rotate_left
         ·simp only [Act.put, List.setIfInBounds_toArray, List.set_cons_zero, List.set_cons_succ, i64_w, i32_w]
          rfl
         refine take_ (i := 3) (N := some 36) (v := ?_) (a' := ?_) #[true, true, true, true, false, true, true, true, false, false, false, false, false, false] rfl rfl (yt HT_.o HW_.o (by kernel_rfl)) (fun _ _ _ h => h) (Or.inl ⟨by rfl, ?_⟩) hHeld ?_ ?_
         rotate_left
         ·rintro w' ⟨s0, s1, s2, s3, s4, s5, s6, s7, s8, s9, s10⟩
          go_simp
          with_reducible rfl
         rotate_left
         ·simp only [Act.put, List.setIfInBounds_toArray, List.set_cons_zero, List.set_cons_succ, i64_w, i32_w]
          rfl
         refine pure_ (i := 4) (N := some 37) (v := ?_) (a' := ?_) #[true, true, true, true, true, true, true, true, false, false, false, false, false, false] rfl rfl (zO HT_.o (by kernel_rfl)) (fun _ _ _ h => h) (Or.inl ⟨by rfl, ?_⟩) ?_ ?_
         rotate_left
         ·intro w'
          go_simp
          with_reducible rfl
         rotate_left
         ·simp only [Act.put, List.setIfInBounds_toArray, List.set_cons_zero, List.set_cons_succ, i64_w, i32_w]
          rfl
         refine take_ (i := 8) (N := some 41) (v := ?_) (a' := ?_) #[true, true, true, true, true, true, true, true, true, false, false, false, false, false] rfl rfl (yt HT_.o HW_.o (by kernel_rfl)) (fun _ _ _ h => h) (Or.inl ⟨by rfl, ?_⟩) hHeld ?_ ?_
         rotate_left
         ·rintro w' ⟨s0, s1, s2, s3, s4, s5, s6, s7, s8, s9, s10⟩
          go_simp
          with_reducible rfl
         rotate_left
         ·simp only [Act.put, List.setIfInBounds_toArray, List.set_cons_zero, List.set_cons_succ, i64_w, i32_w]
          rfl
         refine pure_ (i := 9) (N := some 42) (v := ?_) (a' := ?_) #[true, true, true, true, true, true, true, true, true, true, false, false, false, false] rfl rfl (zO HT_.o (by kernel_rfl)) (fun _ _ _ h => h) (Or.inl ⟨by rfl, ?_⟩) ?_ ?_
         rotate_left
         ·intro w'
          go_simp
          with_reducible rfl
         rotate_left
         ·simp only [Act.put, List.setIfInBounds_toArray, List.set_cons_zero, List.set_cons_succ, i64_w, i32_w]
          rfl
         refine pure_ (i := 10) (N := some 43) (v := ?_) (a' := ?_) #[true, true, true, true, true, true, true, true, true, true, true, false, false, false] rfl rfl (zO HT_.o (by kernel_rfl)) (fun _ _ _ h => h) (Or.inl ⟨by rfl, ?_⟩) ?_ ?_
         rotate_left
         ·intro w'
          go_simp
          with_reducible rfl
         rotate_left
         ·simp only [Act.put, List.setIfInBounds_toArray, List.set_cons_zero, List.set_cons_succ, i64_w, i32_w]
          rfl
         refine pure_ (i := 11) (N := some 44) (v := ?_) (a' := ?_) #[true, true, true, true, true, true, true, true, true, true, true, true, false, false] rfl rfl (zO HT_.o (by kernel_rfl)) (fun _ _ _ h => h) (Or.inl ⟨by rfl, ?_⟩) ?_ ?_
         rotate_left
         ·intro w'
          go_simp
          with_reducible rfl
         rotate_left
         ·simp only [Act.put, List.setIfInBounds_toArray, List.set_cons_zero, List.set_cons_succ, i64_w, i32_w]
          rfl
         refine pure_ (i := 12) (N := some 45) (v := ?_) (a' := ?_) #[true, true, true, true, true, true, true, true, true, true, true, true, true, false] rfl rfl (zO HT_.o (by kernel_rfl)) (fun _ _ _ h => h) (Or.inl ⟨by rfl, ?_⟩) ?_ ?_
         rotate_left
         ·intro w'
          go_simp
          with_reducible rfl
         rotate_left
         ·simp only [Act.put, List.setIfInBounds_toArray, List.set_cons_zero, List.set_cons_succ, i64_w, i32_w]
          rfl
         refine last_ (i := 13) (N := none) #[true, true, true, true, true, true, true, true, true, true, true, true, true, true] rfl rfl (YE HT_.o (by kernel_rfl)) (by decide) (fun K hK => ?_)
         refine skip_ (w1 := ?_) (by rfl) rfl ?_ ?_
         rotate_left
         ·go_simp
          rfl
         refine hK.out _ _ ?_
         clear hK K
         refine done_ (Yf HT_.o (by kernel_rfl)) ?_
         try go_wp2
         (try simp only [← Jp])
         go_roundg k1
         case measure => have := HK1.o; omega
         case rel => exact ⟨(y248), (wrap64 (0 - 1)), (by first | rfl | (simp; done) | (simp [*]; done) | kernel_rfl), H', ⟨by have := HK1.o; omega⟩, ⟨by (try simp only [Jp]); (with_reducible repeat (first | apply Kd.zz | apply Kd.zA | apply Kd.zF)); exact HQ24.o⟩, ⟨by (try simp only [Jp]); (with_reducible repeat (first | refine zg ?_ _ | refine zi ?_ | refine zh ?_ _)); refine zB ?_ (by have h_ := Kd.R_ne Jo.o Ja.o (by decide); intro e_; exact h_ (by rw [e_]; rfl)) _; (with_reducible repeat (first | refine zg ?_ _ | refine zi ?_ | refine zh ?_ _)); exact Ja.o⟩, ⟨by repeat (first | (with_reducible first | exact HB.o | apply zl | apply zf | apply zk | refine zm ?_ GB5.o | refine zm ?_ Jz.o) | exact HB.o)⟩⟩
        ·rw [if_neg c21] at H
         by_cases c25 : JH = 1
         ·subst c25
          have H1 : (escritoireref06_Write.l0 k1 (Jd.set (2 : Int).toNat (IntKind.u64.wrap ((IntKind.u64.wrap (65536 * (rd Jd 2))) + (IntKind.u64.wrap (wrap64 (Jm + 1)))))) (wrap64 (1 - 1)) Jh Jg Jf Je Jn Jm Jl Jk Ji Jj) = some (r1, r2) := by rw [if_pos rfl] at H; exact H
          clear H
          have H := H1
          clear H1
          obtain ⟨y249, JM⟩ : ∃ y_ : List Int, y_ = (Jd.set (2 : Int).toNat (IntKind.u64.wrap ((IntKind.u64.wrap (65536 * (rd Jd 2))) + (IntKind.u64.wrap (wrap64 (Jm + 1)))))) := ⟨_, rfl⟩
          replace H : (escritoireref06_Write.l0 k1 y249 (wrap64 (1 - 1)) Jh Jg Jf Je Jn Jm Jl Jk Ji Jj) = some (r1, r2) := by first | (rw [JM]; with_reducible exact H) | (have H2_ := (Option.bind_some _ _).symm.trans H; rw [JM]; with_reducible exact H2_) | (have H2_ := (Option.bind_some _ _).symm.trans H; with_reducible exact H2_) | with_reducible exact H | (rw [JM]; exact H) | exact H
          have BR := ze.mk JM
          clear JM
          have H' := ze.mk H
          clear H
          try go_wp2
          have n0_ := ze.mk (Kd.zF Jo.o)
          have n1_ := ze.mk (zi Ja.o)
          have n2_ := ze.mk (zk HB.o)
          clear Jo
          clear Ja
          clear HB
          have Jo := n0_
          have Ja := n1_
          have HB := n2_
          clear n0_ n1_ n2_
          have JF : 0 ≤ (2 : Int) := (by omega)
          have JE : 2 < (Jd.length : Int) := of_decide_eq_true (by first | (with_reducible assumption) | assumption)
          obtain ⟨JG, e247, Jc⟩ := Kd.zX (Kd.zQ Jo.o).2.2 2 JF JE
          obtain rfl : (⟨go5, 0, none⟩ : Addr) = JG := (by injection e247)
          (first | simp only [add_plain] at Jc | simp only [ZV] at Jc | simp only [Addr.add, Nat.zero_add] at Jc | skip)
          have J4 : (2 < Jd.length) = True := eq_true (by omega)
          (try rw [show ((2 : Int)).toNat = 2 from rfl] at Jc)
          replace JF := eq_true JF
          replace JE := eq_true JE
          have p26 : 0 ≤ (2 : Int) := (by omega)
          have q26 : (2 : Int) < ((Jd.length : Int) : Int) := of_decide_eq_true (by first | (with_reducible assumption) | assumption)
          have qi26 : (2 < Jd.length) = True := eq_true (by omega)
          obtain ⟨JV, J2⟩ := Kd.zY 0 Jo.o (2 : Int) p26 q26
          (try rw [show ((2 : Int)).toNat = 2 from rfl] at JV)
          (try simp only [Nat.reduceMul, Nat.zero_mul, Nat.zero_add, Nat.reduceAdd] at JV)
          (try rw [show ((2 : Int)).toNat = 2 from rfl] at J2)
          (try simp only [Nat.reduceMul, Nat.zero_mul, Nat.zero_add, Nat.reduceAdd] at J2)
          replace p26 := eq_true p26
          replace q26 := eq_true q26
          have Jac := Kd.R_putn Jo.o (2 : Int) (IntKind.u64.wrap ((IntKind.u64.wrap (65536 * (rd Jd 2))) + (IntKind.u64.wrap (wrap64 (Jm + 1)))))
          rw [← BR.o] at Jac
          have HQ28 := ze.mk Jac
          clear Jac
          refine Yu (n := 14) (S := fun w' => w'.cell? ⟨Jb, 0, none⟩ = some (.int .i64 Jh) ∧ w'.cell? ⟨Jb, 1, none⟩ = some (.int .i64 Jg) ∧ w'.cell? ⟨Jb, 2, none⟩ = some (.int .i64 Jf) ∧ w'.cell? ⟨Jb, 3, none⟩ = some (.int .u64 Je) ∧ w'.cell? ⟨Jb, 4, none⟩ = some (.int .i64 Jn) ∧ w'.cell? ⟨Jb, 5, none⟩ = some (.int .i64 Jm) ∧ w'.cell? ⟨Jb, 6, none⟩ = some (.int .i64 Jl) ∧ w'.cell? ⟨Jb, 7, none⟩ = some (.int .i64 Jk) ∧ w'.cell? ⟨Jb, 8, none⟩ = some (.int .i64 Ji) ∧ w'.cell? ⟨Jb, 9, none⟩ = some (.int .i64 Jj) ∧ w'.cell? ⟨go5, 2, none⟩ = some (.int .u64 (rd Jd 2))) (ds := [13]) #[false, false, false, false, false, false, false, false, false, false, false, false, false, false] (by kernel_rfl) rfl rfl ⟨(zb Ja.o 0).trans rfl, (zb Ja.o 1).trans rfl, (zb Ja.o 2).trans rfl, (zb Ja.o 3).trans rfl, (zb Ja.o 4).trans rfl, (zb Ja.o 5).trans rfl, (zb Ja.o 6).trans rfl, (zb Ja.o 7).trans rfl, (zb Ja.o 8).trans rfl, (zb Ja.o 9).trans rfl, Jc⟩ (fun hHeld => ?_); refine Zu escritoireref06_Write.tab9 escritoireref06_Write.bits9 (fun HT_ HW_ => ?_)
          generalize wr.drew = w27 at Jo Ja HB HQ28 J2 Jc JV hHeld ⊢
          refine pure_ (i := 0) (N := some 33) (v := ?_) (a' := ?_) #[true, false, false, false, false, false, false, false, false, false, false, false, false, false] rfl rfl (zO HT_.o (by kernel_rfl)) (fun _ _ _ h => h) (Or.inl ⟨by rfl, ?_⟩) ?_ ?_
          rotate_left
          ·intro w'
           go_simp
           with_reducible rfl
          rotate_left
          ·simp only [Act.put, List.setIfInBounds_toArray, List.set_cons_zero, List.set_cons_succ, i64_w, i32_w]
           rfl
          refine pure_ (i := 1) (N := some 34) (v := ?_) (a' := ?_) #[true, true, false, false, false, false, false, false, false, false, false, false, false, false] rfl rfl (zO HT_.o (by kernel_rfl)) (fun _ _ _ h => h) (Or.inl ⟨by rfl, ?_⟩) ?_ ?_
          rotate_left
          ·intro w'
           go_simp
           with_reducible rfl
          rotate_left
          ·simp only [Act.put, List.setIfInBounds_toArray, List.set_cons_zero, List.set_cons_succ, i64_w, i32_w]
           rfl
          refine pure_ (i := 2) (N := some 35) (v := ?_) (a' := ?_) #[true, true, true, false, false, false, false, false, false, false, false, false, false, false] rfl rfl (zO HT_.o (by kernel_rfl)) (fun _ _ _ h => h) (Or.inl ⟨by rfl, ?_⟩) ?_ ?_
          rotate_left
          ·intro w'
           go_simp
           with_reducible rfl
          rotate_left
          ·simp only [Act.put, List.setIfInBounds_toArray, List.set_cons_zero, List.set_cons_succ, i64_w, i32_w]
           rfl
          refine pure_ (i := 5) (N := some 38) (v := ?_) (a' := ?_) #[true, true, true, false, false, true, false, false, false, false, false, false, false, false] rfl rfl (zO HT_.o (by kernel_rfl)) (fun _ _ _ h => h) (Or.inl ⟨by rfl, ?_⟩) ?_ ?_
          rotate_left
          ·intro w'
           go_simp
           with_reducible rfl
          rotate_left
          ·simp only [Act.put, List.setIfInBounds_toArray, List.set_cons_zero, List.set_cons_succ, i64_w, i32_w]
           rfl
          refine pure_ (i := 6) (N := some 39) (v := ?_) (a' := ?_) #[true, true, true, false, false, true, true, false, false, false, false, false, false, false] rfl rfl (zO HT_.o (by kernel_rfl)) (fun _ _ _ h => h) (Or.inl ⟨by rfl, ?_⟩) ?_ ?_
          rotate_left
          ·intro w'
           go_simp
           with_reducible rfl
          rotate_left
          ·simp only [Act.put, List.setIfInBounds_toArray, List.set_cons_zero, List.set_cons_succ, i64_w, i32_w]
           rfl
          refine pure_ (i := 7) (N := some 40) (v := ?_) (a' := ?_) #[true, true, true, false, false, true, true, true, false, false, false, false, false, false] rfl rfl (zO HT_.o (by kernel_rfl)) (fun _ _ _ h => h) (Or.inl ⟨by rfl, ?_⟩) ?_ ?_
          rotate_left
          ·intro w'
           go_simp
           with_reducible rfl
          rotate_left
          ·simp only [Act.put, List.setIfInBounds_toArray, List.set_cons_zero, List.set_cons_succ, i64_w, i32_w]
           rfl
          refine take_ (i := 3) (N := some 36) (v := ?_) (a' := ?_) #[true, true, true, true, false, true, true, true, false, false, false, false, false, false] rfl rfl (yt HT_.o HW_.o (by kernel_rfl)) (fun _ _ _ h => h) (Or.inl ⟨by rfl, ?_⟩) hHeld ?_ ?_
          rotate_left
          ·rintro w' ⟨s0, s1, s2, s3, s4, s5, s6, s7, s8, s9, s10⟩
           go_simp
           with_reducible rfl
          rotate_left
          ·simp only [Act.put, List.setIfInBounds_toArray, List.set_cons_zero, List.set_cons_succ, i64_w, i32_w]
           rfl
          refine pure_ (i := 4) (N := some 37) (v := ?_) (a' := ?_) #[true, true, true, true, true, true, true, true, false, false, false, false, false, false] rfl rfl (zO HT_.o (by kernel_rfl)) (fun _ _ _ h => h) (Or.inl ⟨by rfl, ?_⟩) ?_ ?_
          rotate_left
          ·intro w'
           go_simp
           with_reducible rfl
          rotate_left
          ·simp only [Act.put, List.setIfInBounds_toArray, List.set_cons_zero, List.set_cons_succ, i64_w, i32_w]
           rfl
          refine take_ (i := 8) (N := some 41) (v := ?_) (a' := ?_) #[true, true, true, true, true, true, true, true, true, false, false, false, false, false] rfl rfl (yt HT_.o HW_.o (by kernel_rfl)) (fun _ _ _ h => h) (Or.inl ⟨by rfl, ?_⟩) hHeld ?_ ?_
          rotate_left
          ·rintro w' ⟨s0, s1, s2, s3, s4, s5, s6, s7, s8, s9, s10⟩
           go_simp
           with_reducible rfl
          rotate_left
          ·simp only [Act.put, List.setIfInBounds_toArray, List.set_cons_zero, List.set_cons_succ, i64_w, i32_w]
           rfl
          refine pure_ (i := 9) (N := some 42) (v := ?_) (a' := ?_) #[true, true, true, true, true, true, true, true, true, true, false, false, false, false] rfl rfl (zO HT_.o (by kernel_rfl)) (fun _ _ _ h => h) (Or.inl ⟨by rfl, ?_⟩) ?_ ?_
          rotate_left
          ·intro w'
           go_simp
           with_reducible rfl
          rotate_left
          ·simp only [Act.put, List.setIfInBounds_toArray, List.set_cons_zero, List.set_cons_succ, i64_w, i32_w]
           rfl
          refine pure_ (i := 10) (N := some 43) (v := ?_) (a' := ?_) #[true, true, true, true, true, true, true, true, true, true, true, false, false, false] rfl rfl (zO HT_.o (by kernel_rfl)) (fun _ _ _ h => h) (Or.inl ⟨by rfl, ?_⟩) ?_ ?_
          rotate_left
          ·intro w'
           go_simp
           with_reducible rfl
          rotate_left
          ·simp only [Act.put, List.setIfInBounds_toArray, List.set_cons_zero, List.set_cons_succ, i64_w, i32_w]
           rfl
          refine pure_ (i := 11) (N := some 44) (v := ?_) (a' := ?_) #[true, true, true, true, true, true, true, true, true, true, true, true, false, false] rfl rfl (zO HT_.o (by kernel_rfl)) (fun _ _ _ h => h) (Or.inl ⟨by rfl, ?_⟩) ?_ ?_
          rotate_left
          ·intro w'
           go_simp
           with_reducible rfl
          rotate_left
          ·simp only [Act.put, List.setIfInBounds_toArray, List.set_cons_zero, List.set_cons_succ, i64_w, i32_w]
           rfl
          refine pure_ (i := 12) (N := some 45) (v := ?_) (a' := ?_) #[true, true, true, true, true, true, true, true, true, true, true, true, true, false] rfl rfl (zO HT_.o (by kernel_rfl)) (fun _ _ _ h => h) (Or.inl ⟨by rfl, ?_⟩) ?_ ?_
          rotate_left
          ·intro w'
           go_simp
           with_reducible rfl
          rotate_left
          ·simp only [Act.put, List.setIfInBounds_toArray, List.set_cons_zero, List.set_cons_succ, i64_w, i32_w]
           rfl
          refine last_ (i := 13) (N := none) #[true, true, true, true, true, true, true, true, true, true, true, true, true, true] rfl rfl (YE HT_.o (by kernel_rfl)) (by decide) (fun K hK => ?_)
          refine skip_ (w1 := ?_) (by rfl) rfl ?_ ?_
          rotate_left
          ·go_simp
           rfl
          refine hK.out _ _ ?_
          clear hK K
          refine done_ (Yf HT_.o (by kernel_rfl)) ?_
          try go_wp2
          (try simp only [← Jp])
          go_roundg k1
          case measure => have := HK1.o; omega
          case rel => exact ⟨(y249), (wrap64 (1 - 1)), (by first | rfl | (simp; done) | (simp [*]; done) | kernel_rfl), H', ⟨by have := HK1.o; omega⟩, ⟨by (try simp only [Jp]); (with_reducible repeat (first | apply Kd.zz | apply Kd.zA | apply Kd.zF)); exact HQ28.o⟩, ⟨by (try simp only [Jp]); (with_reducible repeat (first | refine zg ?_ _ | refine zi ?_ | refine zh ?_ _)); refine zB ?_ (by have h_ := Kd.R_ne Jo.o Ja.o (by decide); intro e_; exact h_ (by rw [e_]; rfl)) _; (with_reducible repeat (first | refine zg ?_ _ | refine zi ?_ | refine zh ?_ _)); exact Ja.o⟩, ⟨by repeat (first | (with_reducible first | exact HB.o | apply zl | apply zf | apply zk | refine zm ?_ GB5.o | refine zm ?_ Jz.o) | exact HB.o)⟩⟩
         ·rw [if_neg c25] at H
          by_cases c29 : JH = 2
          ·subst c29
           have H1 : (escritoireref06_Write.l0 k1 (Jd.set (2 : Int).toNat (IntKind.u64.wrap ((IntKind.u64.wrap (65536 * (rd Jd 2))) + (IntKind.u64.wrap (wrap64 (Jl + 1)))))) (wrap64 (2 - 1)) Jh Jg Jf Je Jn Jm Jl Jk Ji Jj) = some (r1, r2) := by rw [if_pos rfl] at H; exact H
           clear H
           have H := H1
           clear H1
           obtain ⟨y250, JL⟩ : ∃ y_ : List Int, y_ = (Jd.set (2 : Int).toNat (IntKind.u64.wrap ((IntKind.u64.wrap (65536 * (rd Jd 2))) + (IntKind.u64.wrap (wrap64 (Jl + 1)))))) := ⟨_, rfl⟩
           replace H : (escritoireref06_Write.l0 k1 y250 (wrap64 (2 - 1)) Jh Jg Jf Je Jn Jm Jl Jk Ji Jj) = some (r1, r2) := by first | (rw [JL]; with_reducible exact H) | (have H2_ := (Option.bind_some _ _).symm.trans H; rw [JL]; with_reducible exact H2_) | (have H2_ := (Option.bind_some _ _).symm.trans H; with_reducible exact H2_) | with_reducible exact H | (rw [JL]; exact H) | exact H
           have BQ := ze.mk JL
           clear JL
           have H' := ze.mk H
           clear H
           try go_wp2
           have n0_ := ze.mk (Kd.zF Jo.o)
           have n1_ := ze.mk (zi Ja.o)
           have n2_ := ze.mk (zk HB.o)
           clear Jo
           clear Ja
           clear HB
           have Jo := n0_
           have Ja := n1_
           have HB := n2_
           clear n0_ n1_ n2_
           have JF : 0 ≤ (2 : Int) := (by omega)
           have JE : 2 < (Jd.length : Int) := of_decide_eq_true (by first | (with_reducible assumption) | assumption)
           obtain ⟨JG, e247, Jc⟩ := Kd.zX (Kd.zQ Jo.o).2.2 2 JF JE
           obtain rfl : (⟨go5, 0, none⟩ : Addr) = JG := (by injection e247)
           (first | simp only [add_plain] at Jc | simp only [ZV] at Jc | simp only [Addr.add, Nat.zero_add] at Jc | skip)
           have J4 : (2 < Jd.length) = True := eq_true (by omega)
           (try rw [show ((2 : Int)).toNat = 2 from rfl] at Jc)
           replace JF := eq_true JF
           replace JE := eq_true JE
           have p30 : 0 ≤ (2 : Int) := (by omega)
           have q30 : (2 : Int) < ((Jd.length : Int) : Int) := of_decide_eq_true (by first | (with_reducible assumption) | assumption)
           have qi30 : (2 < Jd.length) = True := eq_true (by omega)
           obtain ⟨JU, JZ⟩ := Kd.zY 0 Jo.o (2 : Int) p30 q30
           (try rw [show ((2 : Int)).toNat = 2 from rfl] at JU)
           (try simp only [Nat.reduceMul, Nat.zero_mul, Nat.zero_add, Nat.reduceAdd] at JU)
           (try rw [show ((2 : Int)).toNat = 2 from rfl] at JZ)
           (try simp only [Nat.reduceMul, Nat.zero_mul, Nat.zero_add, Nat.reduceAdd] at JZ)
           replace p30 := eq_true p30
           replace q30 := eq_true q30
           have Jab := Kd.R_putn Jo.o (2 : Int) (IntKind.u64.wrap ((IntKind.u64.wrap (65536 * (rd Jd 2))) + (IntKind.u64.wrap (wrap64 (Jl + 1)))))
           rw [← BQ.o] at Jab
           have HQ32 := ze.mk Jab
           clear Jab
           refine Yu (n := 14) (S := fun w' => w'.cell? ⟨Jb, 0, none⟩ = some (.int .i64 Jh) ∧ w'.cell? ⟨Jb, 1, none⟩ = some (.int .i64 Jg) ∧ w'.cell? ⟨Jb, 2, none⟩ = some (.int .i64 Jf) ∧ w'.cell? ⟨Jb, 3, none⟩ = some (.int .u64 Je) ∧ w'.cell? ⟨Jb, 4, none⟩ = some (.int .i64 Jn) ∧ w'.cell? ⟨Jb, 5, none⟩ = some (.int .i64 Jm) ∧ w'.cell? ⟨Jb, 6, none⟩ = some (.int .i64 Jl) ∧ w'.cell? ⟨Jb, 7, none⟩ = some (.int .i64 Jk) ∧ w'.cell? ⟨Jb, 8, none⟩ = some (.int .i64 Ji) ∧ w'.cell? ⟨Jb, 9, none⟩ = some (.int .i64 Jj) ∧ w'.cell? ⟨go5, 2, none⟩ = some (.int .u64 (rd Jd 2))) (ds := [13]) #[false, false, false, false, false, false, false, false, false, false, false, false, false, false] (by kernel_rfl) rfl rfl ⟨(zb Ja.o 0).trans rfl, (zb Ja.o 1).trans rfl, (zb Ja.o 2).trans rfl, (zb Ja.o 3).trans rfl, (zb Ja.o 4).trans rfl, (zb Ja.o 5).trans rfl, (zb Ja.o 6).trans rfl, (zb Ja.o 7).trans rfl, (zb Ja.o 8).trans rfl, (zb Ja.o 9).trans rfl, Jc⟩ (fun hHeld => ?_); refine Zu escritoireref06_Write.tab9 escritoireref06_Write.bits9 (fun HT_ HW_ => ?_)
           generalize wr.drew = w31 at Jo Ja HB HQ32 JZ Jc JU hHeld ⊢
           refine pure_ (i := 0) (N := some 33) (v := ?_) (a' := ?_) #[true, false, false, false, false, false, false, false, false, false, false, false, false, false] rfl rfl (zO HT_.o (by kernel_rfl)) (fun _ _ _ h => h) (Or.inl ⟨by rfl, ?_⟩) ?_ ?_
           rotate_left
           ·intro w'
            go_simp
            with_reducible rfl
           rotate_left
           ·simp only [Act.put, List.setIfInBounds_toArray, List.set_cons_zero, List.set_cons_succ, i64_w, i32_w]
            rfl
           refine pure_ (i := 1) (N := some 34) (v := ?_) (a' := ?_) #[true, true, false, false, false, false, false, false, false, false, false, false, false, false] rfl rfl (zO HT_.o (by kernel_rfl)) (fun _ _ _ h => h) (Or.inl ⟨by rfl, ?_⟩) ?_ ?_
           rotate_left
           ·intro w'
            go_simp
            with_reducible rfl
           rotate_left
           ·simp only [Act.put, List.setIfInBounds_toArray, List.set_cons_zero, List.set_cons_succ, i64_w, i32_w]
            rfl
           refine pure_ (i := 2) (N := some 35) (v := ?_) (a' := ?_) #[true, true, true, false, false, false, false, false, false, false, false, false, false, false] rfl rfl (zO HT_.o (by kernel_rfl)) (fun _ _ _ h => h) (Or.inl ⟨by rfl, ?_⟩) ?_ ?_
           rotate_left
           ·intro w'
            go_simp
            with_reducible rfl
           rotate_left
           ·simp only [Act.put, List.setIfInBounds_toArray, List.set_cons_zero, List.set_cons_succ, i64_w, i32_w]
            rfl
           refine pure_ (i := 5) (N := some 38) (v := ?_) (a' := ?_) #[true, true, true, false, false, true, false, false, false, false, false, false, false, false] rfl rfl (zO HT_.o (by kernel_rfl)) (fun _ _ _ h => h) (Or.inl ⟨by rfl, ?_⟩) ?_ ?_
           rotate_left
           ·intro w'
            go_simp
            with_reducible rfl
           rotate_left
           ·simp only [Act.put, List.setIfInBounds_toArray, List.set_cons_zero, List.set_cons_succ, i64_w, i32_w]
            rfl
           refine pure_ (i := 6) (N := some 39) (v := ?_) (a' := ?_) #[true, true, true, false, false, true, true, false, false, false, false, false, false, false] rfl rfl (zO HT_.o (by kernel_rfl)) (fun _ _ _ h => h) (Or.inl ⟨by rfl, ?_⟩) ?_ ?_
           rotate_left
           ·intro w'
            go_simp
            with_reducible rfl
           rotate_left
           ·simp only [Act.put, List.setIfInBounds_toArray, List.set_cons_zero, List.set_cons_succ, i64_w, i32_w]
            rfl
           refine pure_ (i := 7) (N := some 40) (v := ?_) (a' := ?_) #[true, true, true, false, false, true, true, true, false, false, false, false, false, false] rfl rfl (zO HT_.o (by kernel_rfl)) (fun _ _ _ h => h) (Or.inl ⟨by rfl, ?_⟩) ?_ ?_
           rotate_left
           ·intro w'
            go_simp
            with_reducible rfl
           rotate_left
           ·simp only [Act.put, List.setIfInBounds_toArray, List.set_cons_zero, List.set_cons_succ, i64_w, i32_w]
            rfl
           refine take_ (i := 3) (N := some 36) (v := ?_) (a' := ?_) #[true, true, true, true, false, true, true, true, false, false, false, false, false, false] rfl rfl (yt HT_.o HW_.o (by kernel_rfl)) (fun _ _ _ h => h) (Or.inl ⟨by rfl, ?_⟩) hHeld ?_ ?_
           rotate_left
           ·rintro w' ⟨s0, s1, s2, s3, s4, s5, s6, s7, s8, s9, s10⟩
            go_simp
            with_reducible rfl
           rotate_left
           ·simp only [Act.put, List.setIfInBounds_toArray, List.set_cons_zero, List.set_cons_succ, i64_w, i32_w]
            rfl
           refine pure_ (i := 4) (N := some 37) (v := ?_) (a' := ?_) #[true, true, true, true, true, true, true, true, false, false, false, false, false, false] rfl rfl (zO HT_.o (by kernel_rfl)) (fun _ _ _ h => h) (Or.inl ⟨by rfl, ?_⟩) ?_ ?_
           rotate_left
           ·intro w'
            go_simp
            with_reducible rfl
           rotate_left
           ·simp only [Act.put, List.setIfInBounds_toArray, List.set_cons_zero, List.set_cons_succ, i64_w, i32_w]
            rfl
           refine take_ (i := 8) (N := some 41) (v := ?_) (a' := ?_) #[true, true, true, true, true, true, true, true, true, false, false, false, false, false] rfl rfl (yt HT_.o HW_.o (by kernel_rfl)) (fun _ _ _ h => h) (Or.inl ⟨by rfl, ?_⟩) hHeld ?_ ?_
           rotate_left
           ·rintro w' ⟨s0, s1, s2, s3, s4, s5, s6, s7, s8, s9, s10⟩
            go_simp
            with_reducible rfl
           rotate_left
           ·simp only [Act.put, List.setIfInBounds_toArray, List.set_cons_zero, List.set_cons_succ, i64_w, i32_w]
            rfl
           refine pure_ (i := 9) (N := some 42) (v := ?_) (a' := ?_) #[true, true, true, true, true, true, true, true, true, true, false, false, false, false] rfl rfl (zO HT_.o (by kernel_rfl)) (fun _ _ _ h => h) (Or.inl ⟨by rfl, ?_⟩) ?_ ?_
           rotate_left
           ·intro w'
            go_simp
            with_reducible rfl
           rotate_left
           ·simp only [Act.put, List.setIfInBounds_toArray, List.set_cons_zero, List.set_cons_succ, i64_w, i32_w]
            rfl
           refine pure_ (i := 10) (N := some 43) (v := ?_) (a' := ?_) #[true, true, true, true, true, true, true, true, true, true, true, false, false, false] rfl rfl (zO HT_.o (by kernel_rfl)) (fun _ _ _ h => h) (Or.inl ⟨by rfl, ?_⟩) ?_ ?_
           rotate_left
           ·intro w'
            go_simp
            with_reducible rfl
           rotate_left
           ·simp only [Act.put, List.setIfInBounds_toArray, List.set_cons_zero, List.set_cons_succ, i64_w, i32_w]
            rfl
           refine pure_ (i := 11) (N := some 44) (v := ?_) (a' := ?_) #[true, true, true, true, true, true, true, true, true, true, true, true, false, false] rfl rfl (zO HT_.o (by kernel_rfl)) (fun _ _ _ h => h) (Or.inl ⟨by rfl, ?_⟩) ?_ ?_
           rotate_left
           ·intro w'
            go_simp
            with_reducible rfl
           rotate_left
           ·simp only [Act.put, List.setIfInBounds_toArray, List.set_cons_zero, List.set_cons_succ, i64_w, i32_w]
            rfl
           refine pure_ (i := 12) (N := some 45) (v := ?_) (a' := ?_) #[true, true, true, true, true, true, true, true, true, true, true, true, true, false] rfl rfl (zO HT_.o (by kernel_rfl)) (fun _ _ _ h => h) (Or.inl ⟨by rfl, ?_⟩) ?_ ?_
           rotate_left
           ·intro w'
            go_simp
            with_reducible rfl
           rotate_left
           ·simp only [Act.put, List.setIfInBounds_toArray, List.set_cons_zero, List.set_cons_succ, i64_w, i32_w]
            rfl
           refine last_ (i := 13) (N := none) #[true, true, true, true, true, true, true, true, true, true, true, true, true, true] rfl rfl (YE HT_.o (by kernel_rfl)) (by decide) (fun K hK => ?_)
           refine skip_ (w1 := ?_) (by rfl) rfl ?_ ?_
           rotate_left
           ·go_simp
            rfl
           refine hK.out _ _ ?_
           clear hK K
           refine done_ (Yf HT_.o (by kernel_rfl)) ?_
           try go_wp2
           (try simp only [← Jp])
           go_roundg k1
           case measure => have := HK1.o; omega
           case rel => exact ⟨(y250), (wrap64 (2 - 1)), (by first | rfl | (simp; done) | (simp [*]; done) | kernel_rfl), H', ⟨by have := HK1.o; omega⟩, ⟨by (try simp only [Jp]); (with_reducible repeat (first | apply Kd.zz | apply Kd.zA | apply Kd.zF)); exact HQ32.o⟩, ⟨by (try simp only [Jp]); (with_reducible repeat (first | refine zg ?_ _ | refine zi ?_ | refine zh ?_ _)); refine zB ?_ (by have h_ := Kd.R_ne Jo.o Ja.o (by decide); intro e_; exact h_ (by rw [e_]; rfl)) _; (with_reducible repeat (first | refine zg ?_ _ | refine zi ?_ | refine zh ?_ _)); exact Ja.o⟩, ⟨by repeat (first | (with_reducible first | exact HB.o | apply zl | apply zf | apply zk | refine zm ?_ GB5.o | refine zm ?_ Jz.o) | exact HB.o)⟩⟩
          ·rw [if_neg c29] at H
           by_cases c33 : JH = 3
           ·subst c33
            have H1 : (escritoireref06_Write.l0 k1 (Jd.set (2 : Int).toNat (IntKind.u64.wrap ((IntKind.u64.wrap (65536 * (rd Jd 2))) + (IntKind.u64.wrap (wrap64 (Jk + 1)))))) (wrap64 (3 - 1)) Jh Jg Jf Je Jn Jm Jl Jk Ji Jj) = some (r1, r2) := by rw [if_pos rfl] at H; exact H
            clear H
            have H := H1
            clear H1
            obtain ⟨y251, JK⟩ : ∃ y_ : List Int, y_ = (Jd.set (2 : Int).toNat (IntKind.u64.wrap ((IntKind.u64.wrap (65536 * (rd Jd 2))) + (IntKind.u64.wrap (wrap64 (Jk + 1)))))) := ⟨_, rfl⟩
            replace H : (escritoireref06_Write.l0 k1 y251 (wrap64 (3 - 1)) Jh Jg Jf Je Jn Jm Jl Jk Ji Jj) = some (r1, r2) := by first | (rw [JK]; with_reducible exact H) | (have H2_ := (Option.bind_some _ _).symm.trans H; rw [JK]; with_reducible exact H2_) | (have H2_ := (Option.bind_some _ _).symm.trans H; with_reducible exact H2_) | with_reducible exact H | (rw [JK]; exact H) | exact H
            have BP := ze.mk JK
            clear JK
            have H' := ze.mk H
            clear H
            try go_wp2
            have n0_ := ze.mk (Kd.zF Jo.o)
            have n1_ := ze.mk (zi Ja.o)
            have n2_ := ze.mk (zk HB.o)
            clear Jo
            clear Ja
            clear HB
            have Jo := n0_
            have Ja := n1_
            have HB := n2_
            clear n0_ n1_ n2_
            have JF : 0 ≤ (2 : Int) := (by omega)
            have JE : 2 < (Jd.length : Int) := of_decide_eq_true (by first | (with_reducible assumption) | assumption)
            obtain ⟨JG, e247, Jc⟩ := Kd.zX (Kd.zQ Jo.o).2.2 2 JF JE
            obtain rfl : (⟨go5, 0, none⟩ : Addr) = JG := (by injection e247)
            (first | simp only [add_plain] at Jc | simp only [ZV] at Jc | simp only [Addr.add, Nat.zero_add] at Jc | skip)
            have J4 : (2 < Jd.length) = True := eq_true (by omega)
            (try rw [show ((2 : Int)).toNat = 2 from rfl] at Jc)
            replace JF := eq_true JF
            replace JE := eq_true JE
            have p34 : 0 ≤ (2 : Int) := (by omega)
            have q34 : (2 : Int) < ((Jd.length : Int) : Int) := of_decide_eq_true (by first | (with_reducible assumption) | assumption)
            have qi34 : (2 < Jd.length) = True := eq_true (by omega)
            obtain ⟨JS, JY⟩ := Kd.zY 0 Jo.o (2 : Int) p34 q34
            (try rw [show ((2 : Int)).toNat = 2 from rfl] at JS)
            (try simp only [Nat.reduceMul, Nat.zero_mul, Nat.zero_add, Nat.reduceAdd] at JS)
            (try rw [show ((2 : Int)).toNat = 2 from rfl] at JY)
            (try simp only [Nat.reduceMul, Nat.zero_mul, Nat.zero_add, Nat.reduceAdd] at JY)
            replace p34 := eq_true p34
            replace q34 := eq_true q34
            have Jaa := Kd.R_putn Jo.o (2 : Int) (IntKind.u64.wrap ((IntKind.u64.wrap (65536 * (rd Jd 2))) + (IntKind.u64.wrap (wrap64 (Jk + 1)))))
            rw [← BP.o] at Jaa
            have HQ36 := ze.mk Jaa
            clear Jaa
            refine Yu (n := 14) (S := fun w' => w'.cell? ⟨Jb, 0, none⟩ = some (.int .i64 Jh) ∧ w'.cell? ⟨Jb, 1, none⟩ = some (.int .i64 Jg) ∧ w'.cell? ⟨Jb, 2, none⟩ = some (.int .i64 Jf) ∧ w'.cell? ⟨Jb, 3, none⟩ = some (.int .u64 Je) ∧ w'.cell? ⟨Jb, 4, none⟩ = some (.int .i64 Jn) ∧ w'.cell? ⟨Jb, 5, none⟩ = some (.int .i64 Jm) ∧ w'.cell? ⟨Jb, 6, none⟩ = some (.int .i64 Jl) ∧ w'.cell? ⟨Jb, 7, none⟩ = some (.int .i64 Jk) ∧ w'.cell? ⟨Jb, 8, none⟩ = some (.int .i64 Ji) ∧ w'.cell? ⟨Jb, 9, none⟩ = some (.int .i64 Jj) ∧ w'.cell? ⟨go5, 2, none⟩ = some (.int .u64 (rd Jd 2))) (ds := [13]) #[false, false, false, false, false, false, false, false, false, false, false, false, false, false] (by kernel_rfl) rfl rfl ⟨(zb Ja.o 0).trans rfl, (zb Ja.o 1).trans rfl, (zb Ja.o 2).trans rfl, (zb Ja.o 3).trans rfl, (zb Ja.o 4).trans rfl, (zb Ja.o 5).trans rfl, (zb Ja.o 6).trans rfl, (zb Ja.o 7).trans rfl, (zb Ja.o 8).trans rfl, (zb Ja.o 9).trans rfl, Jc⟩ (fun hHeld => ?_); refine Zu escritoireref06_Write.tab9 escritoireref06_Write.bits9 (fun HT_ HW_ => ?_)
            generalize wr.drew = w35 at Jo Ja HB HQ36 JY Jc JS hHeld ⊢
            refine pure_ (i := 0) (N := some 33) (v := ?_) (a' := ?_) #[true, false, false, false, false, false, false, false, false, false, false, false, false, false] rfl rfl (zO HT_.o (by kernel_rfl)) (fun _ _ _ h => h) (Or.inl ⟨by rfl, ?_⟩) ?_ ?_
            rotate_left
            ·intro w'
             go_simp
             with_reducible rfl
            rotate_left
            ·simp only [Act.put, List.setIfInBounds_toArray, List.set_cons_zero, List.set_cons_succ, i64_w, i32_w]
             rfl
            refine pure_ (i := 1) (N := some 34) (v := ?_) (a' := ?_) #[true, true, false, false, false, false, false, false, false, false, false, false, false, false] rfl rfl (zO HT_.o (by kernel_rfl)) (fun _ _ _ h => h) (Or.inl ⟨by rfl, ?_⟩) ?_ ?_
            rotate_left
            ·intro w'
             go_simp
             with_reducible rfl
            rotate_left
            ·simp only [Act.put, List.setIfInBounds_toArray, List.set_cons_zero, List.set_cons_succ, i64_w, i32_w]
             rfl
            refine pure_ (i := 2) (N := some 35) (v := ?_) (a' := ?_) #[true, true, true, false, false, false, false, false, false, false, false, false, false, false] rfl rfl (zO HT_.o (by kernel_rfl)) (fun _ _ _ h => h) (Or.inl ⟨by rfl, ?_⟩) ?_ ?_
            rotate_left
            ·intro w'
             go_simp
             with_reducible rfl
            rotate_left
            ·simp only [Act.put, List.setIfInBounds_toArray, List.set_cons_zero, List.set_cons_succ, i64_w, i32_w]
             rfl
            refine pure_ (i := 5) (N := some 38) (v := ?_) (a' := ?_) #[true, true, true, false, false, true, false, false, false, false, false, false, false, false] rfl rfl (zO HT_.o (by kernel_rfl)) (fun _ _ _ h => h) (Or.inl ⟨by rfl, ?_⟩) ?_ ?_
            rotate_left
            ·intro w'
             go_simp
             with_reducible rfl
            rotate_left
            ·simp only [Act.put, List.setIfInBounds_toArray, List.set_cons_zero, List.set_cons_succ, i64_w, i32_w]
             rfl
            refine pure_ (i := 6) (N := some 39) (v := ?_) (a' := ?_) #[true, true, true, false, false, true, true, false, false, false, false, false, false, false] rfl rfl (zO HT_.o (by kernel_rfl)) (fun _ _ _ h => h) (Or.inl ⟨by rfl, ?_⟩) ?_ ?_
            rotate_left
            ·intro w'
             go_simp
             with_reducible rfl
            rotate_left
            ·simp only [Act.put, List.setIfInBounds_toArray, List.set_cons_zero, List.set_cons_succ, i64_w, i32_w]
             rfl
            refine pure_ (i := 7) (N := some 40) (v := ?_) (a' := ?_) #[true, true, true, false, false, true, true, true, false, false, false, false, false, false] rfl rfl (zO HT_.o (by kernel_rfl)) (fun _ _ _ h => h) (Or.inl ⟨by rfl, ?_⟩) ?_ ?_
            rotate_left
            ·intro w'
             go_simp
             with_reducible rfl
            rotate_left
            ·simp only [Act.put, List.setIfInBounds_toArray, List.set_cons_zero, List.set_cons_succ, i64_w, i32_w]
             rfl
            refine take_ (i := 3) (N := some 36) (v := ?_) (a' := ?_) #[true, true, true, true, false, true, true, true, false, false, false, false, false, false] rfl rfl (yt HT_.o HW_.o (by kernel_rfl)) (fun _ _ _ h => h) (Or.inl ⟨by rfl, ?_⟩) hHeld ?_ ?_
            rotate_left
            ·rintro w' ⟨s0, s1, s2, s3, s4, s5, s6, s7, s8, s9, s10⟩
             go_simp
             with_reducible rfl
            rotate_left
            ·simp only [Act.put, List.setIfInBounds_toArray, List.set_cons_zero, List.set_cons_succ, i64_w, i32_w]
             rfl
            refine pure_ (i := 4) (N := some 37) (v := ?_) (a' := ?_) #[true, true, true, true, true, true, true, true, false, false, false, false, false, false] rfl rfl (zO HT_.o (by kernel_rfl)) (fun _ _ _ h => h) (Or.inl ⟨by rfl, ?_⟩) ?_ ?_
            rotate_left
            ·intro w'
             go_simp
             with_reducible rfl
            rotate_left
            ·simp only [Act.put, List.setIfInBounds_toArray, List.set_cons_zero, List.set_cons_succ, i64_w, i32_w]
             rfl
            refine take_ (i := 8) (N := some 41) (v := ?_) (a' := ?_) #[true, true, true, true, true, true, true, true, true, false, false, false, false, false] rfl rfl (yt HT_.o HW_.o (by kernel_rfl)) (fun _ _ _ h => h) (Or.inl ⟨by rfl, ?_⟩) hHeld ?_ ?_
            rotate_left
            ·rintro w' ⟨s0, s1, s2, s3, s4, s5, s6, s7, s8, s9, s10⟩
             go_simp
             with_reducible rfl
            rotate_left
            ·simp only [Act.put, List.setIfInBounds_toArray, List.set_cons_zero, List.set_cons_succ, i64_w, i32_w]
             rfl
            refine pure_ (i := 9) (N := some 42) (v := ?_) (a' := ?_) #[true, true, true, true, true, true, true, true, true, true, false, false, false, false] rfl rfl (zO HT_.o (by kernel_rfl)) (fun _ _ _ h => h) (Or.inl ⟨by rfl, ?_⟩) ?_ ?_
            rotate_left
            ·intro w'
             go_simp
             with_reducible rfl
            rotate_left
            ·simp only [Act.put, List.setIfInBounds_toArray, List.set_cons_zero, List.set_cons_succ, i64_w, i32_w]
             rfl
            refine pure_ (i := 10) (N := some 43) (v := ?_) (a' := ?_) #[true, true, true, true, true, true, true, true, true, true, true, false, false, false] rfl rfl (zO HT_.o (by kernel_rfl)) (fun _ _ _ h => h) (Or.inl ⟨by rfl, ?_⟩) ?_ ?_
            rotate_left
            ·intro w'
             go_simp
             with_reducible rfl
            rotate_left
            ·simp only [Act.put, List.setIfInBounds_toArray, List.set_cons_zero, List.set_cons_succ, i64_w, i32_w]
             rfl
            refine pure_ (i := 11) (N := some 44) (v := ?_) (a' := ?_) #[true, true, true, true, true, true, true, true, true, true, true, true, false, false] rfl rfl (zO HT_.o (by kernel_rfl)) (fun _ _ _ h => h) (Or.inl ⟨by rfl, ?_⟩) ?_ ?_
            rotate_left
            ·intro w'
             go_simp
             with_reducible rfl
            rotate_left
            ·simp only [Act.put, List.setIfInBounds_toArray, List.set_cons_zero, List.set_cons_succ, i64_w, i32_w]
             rfl
            refine pure_ (i := 12) (N := some 45) (v := ?_) (a' := ?_) #[true, true, true, true, true, true, true, true, true, true, true, true, true, false] rfl rfl (zO HT_.o (by kernel_rfl)) (fun _ _ _ h => h) (Or.inl ⟨by rfl, ?_⟩) ?_ ?_
            rotate_left
            ·intro w'
             go_simp
             with_reducible rfl
            rotate_left
            ·simp only [Act.put, List.setIfInBounds_toArray, List.set_cons_zero, List.set_cons_succ, i64_w, i32_w]
             rfl
            refine last_ (i := 13) (N := none) #[true, true, true, true, true, true, true, true, true, true, true, true, true, true] rfl rfl (YE HT_.o (by kernel_rfl)) (by decide) (fun K hK => ?_)
            refine skip_ (w1 := ?_) (by rfl) rfl ?_ ?_
            rotate_left
            ·go_simp
             rfl
            refine hK.out _ _ ?_
            clear hK K
            refine done_ (Yf HT_.o (by kernel_rfl)) ?_
            try go_wp2
            (try simp only [← Jp])
            go_roundg k1
            case measure => have := HK1.o; omega
            case rel => exact ⟨(y251), (wrap64 (3 - 1)), (by first | rfl | (simp; done) | (simp [*]; done) | kernel_rfl), H', ⟨by have := HK1.o; omega⟩, ⟨by (try simp only [Jp]); (with_reducible repeat (first | apply Kd.zz | apply Kd.zA | apply Kd.zF)); exact HQ36.o⟩, ⟨by (try simp only [Jp]); (with_reducible repeat (first | refine zg ?_ _ | refine zi ?_ | refine zh ?_ _)); refine zB ?_ (by have h_ := Kd.R_ne Jo.o Ja.o (by decide); intro e_; exact h_ (by rw [e_]; rfl)) _; (with_reducible repeat (first | refine zg ?_ _ | refine zi ?_ | refine zh ?_ _)); exact Ja.o⟩, ⟨by repeat (first | (with_reducible first | exact HB.o | apply zl | apply zf | apply zk | refine zm ?_ GB5.o | refine zm ?_ Jz.o) | exact HB.o)⟩⟩
           ·rw [if_neg c33] at H
            by_cases c37 : JH = 4
            ·subst c37
             have H1 : (escritoireref06_Write.l0 k1 (Jd.set (2 : Int).toNat (IntKind.u64.wrap ((IntKind.u64.wrap (65536 * (rd Jd 2))) + (IntKind.u64.wrap (wrap64 (Ji + 1)))))) (wrap64 (4 - 1)) Jh Jg Jf Je Jn Jm Jl Jk Ji Jj) = some (r1, r2) := by rw [if_pos rfl] at H; exact H
             clear H
             have H := H1
             clear H1
             obtain ⟨y252, JJ⟩ : ∃ y_ : List Int, y_ = (Jd.set (2 : Int).toNat (IntKind.u64.wrap ((IntKind.u64.wrap (65536 * (rd Jd 2))) + (IntKind.u64.wrap (wrap64 (Ji + 1)))))) := ⟨_, rfl⟩
             replace H : (escritoireref06_Write.l0 k1 y252 (wrap64 (4 - 1)) Jh Jg Jf Je Jn Jm Jl Jk Ji Jj) = some (r1, r2) := by first | (rw [JJ]; with_reducible exact H) | (have H2_ := (Option.bind_some _ _).symm.trans H; rw [JJ]; with_reducible exact H2_) | (have H2_ := (Option.bind_some _ _).symm.trans H; with_reducible exact H2_) | with_reducible exact H | (rw [JJ]; exact H) | exact H
             have BO := ze.mk JJ
             clear JJ
             have H' := ze.mk H
             clear H
             try go_wp2
             have n0_ := ze.mk (Kd.zF Jo.o)
             have n1_ := ze.mk (zi Ja.o)
             have n2_ := ze.mk (zk HB.o)
             clear Jo
             clear Ja
             clear HB
             have Jo := n0_
             have Ja := n1_
             have HB := n2_
             clear n0_ n1_ n2_
             have JF : 0 ≤ (2 : Int) := (by omega)
             have JE : 2 < (Jd.length : Int) := of_decide_eq_true (by first | (with_reducible assumption) | assumption)
             obtain ⟨JG, e247, Jc⟩ := Kd.zX (Kd.zQ Jo.o).2.2 2 JF JE
             obtain rfl : (⟨go5, 0, none⟩ : Addr) = JG := (by injection e247)
             (first | simp only [add_plain] at Jc | simp only [ZV] at Jc | simp only [Addr.add, Nat.zero_add] at Jc | skip)
             have J4 : (2 < Jd.length) = True := eq_true (by omega)
             (try rw [show ((2 : Int)).toNat = 2 from rfl] at Jc)
             replace JF := eq_true JF
             replace JE := eq_true JE
             have p38 : 0 ≤ (2 : Int) := (by omega)
             have q38 : (2 : Int) < ((Jd.length : Int) : Int) := of_decide_eq_true (by first | (with_reducible assumption) | assumption)
             have qi38 : (2 < Jd.length) = True := eq_true (by omega)
             obtain ⟨JR, JX⟩ := Kd.zY 0 Jo.o (2 : Int) p38 q38
             (try rw [show ((2 : Int)).toNat = 2 from rfl] at JR)
             (try simp only [Nat.reduceMul, Nat.zero_mul, Nat.zero_add, Nat.reduceAdd] at JR)
             (try rw [show ((2 : Int)).toNat = 2 from rfl] at JX)
             (try simp only [Nat.reduceMul, Nat.zero_mul, Nat.zero_add, Nat.reduceAdd] at JX)
             replace p38 := eq_true p38
             replace q38 := eq_true q38
             have BZ := Kd.R_putn Jo.o (2 : Int) (IntKind.u64.wrap ((IntKind.u64.wrap (65536 * (rd Jd 2))) + (IntKind.u64.wrap (wrap64 (Ji + 1)))))
             rw [← BO.o] at BZ
             have HQ40 := ze.mk BZ
             clear BZ
             refine Yu (n := 14) (S := fun w' => w'.cell? ⟨Jb, 0, none⟩ = some (.int .i64 Jh) ∧ w'.cell? ⟨Jb, 1, none⟩ = some (.int .i64 Jg) ∧ w'.cell? ⟨Jb, 2, none⟩ = some (.int .i64 Jf) ∧ w'.cell? ⟨Jb, 3, none⟩ = some (.int .u64 Je) ∧ w'.cell? ⟨Jb, 4, none⟩ = some (.int .i64 Jn) ∧ w'.cell? ⟨Jb, 5, none⟩ = some (.int .i64 Jm) ∧ w'.cell? ⟨Jb, 6, none⟩ = some (.int .i64 Jl) ∧ w'.cell? ⟨Jb, 7, none⟩ = some (.int .i64 Jk) ∧ w'.cell? ⟨Jb, 8, none⟩ = some (.int .i64 Ji) ∧ w'.cell? ⟨Jb, 9, none⟩ = some (.int .i64 Jj) ∧ w'.cell? ⟨go5, 2, none⟩ = some (.int .u64 (rd Jd 2))) (ds := [13]) #[false, false, false, false, false, false, false, false, false, false, false, false, false, false] (by kernel_rfl) rfl rfl ⟨(zb Ja.o 0).trans rfl, (zb Ja.o 1).trans rfl, (zb Ja.o 2).trans rfl, (zb Ja.o 3).trans rfl, (zb Ja.o 4).trans rfl, (zb Ja.o 5).trans rfl, (zb Ja.o 6).trans rfl, (zb Ja.o 7).trans rfl, (zb Ja.o 8).trans rfl, (zb Ja.o 9).trans rfl, Jc⟩ (fun hHeld => ?_); refine Zu escritoireref06_Write.tab9 escritoireref06_Write.bits9 (fun HT_ HW_ => ?_)
             generalize wr.drew = w39 at Jo Ja HB HQ40 JX Jc JR hHeld ⊢
             refine pure_ (i := 0) (N := some 33) (v := ?_) (a' := ?_) #[true, false, false, false, false, false, false, false, false, false, false, false, false, false] rfl rfl (zO HT_.o (by kernel_rfl)) (fun _ _ _ h => h) (Or.inl ⟨by rfl, ?_⟩) ?_ ?_
             rotate_left
             ·intro w'
              go_simp
              with_reducible rfl
             rotate_left
             ·simp only [Act.put, List.setIfInBounds_toArray, List.set_cons_zero, List.set_cons_succ, i64_w, i32_w]
              rfl
             refine pure_ (i := 1) (N := some 34) (v := ?_) (a' := ?_) #[true, true, false, false, false, false, false, false, false, false, false, false, false, false] rfl rfl (zO HT_.o (by kernel_rfl)) (fun _ _ _ h => h) (Or.inl ⟨by rfl, ?_⟩) ?_ ?_
             rotate_left
             ·intro w'
              go_simp
              with_reducible rfl
             rotate_left
             ·simp only [Act.put, List.setIfInBounds_toArray, List.set_cons_zero, List.set_cons_succ, i64_w, i32_w]
              rfl
             refine pure_ (i := 2) (N := some 35) (v := ?_) (a' := ?_) #[true, true, true, false, false, false, false, false, false, false, false, false, false, false] rfl rfl (zO HT_.o (by kernel_rfl)) (fun _ _ _ h => h) (Or.inl ⟨by rfl, ?_⟩) ?_ ?_
             rotate_left
             ·intro w'
              go_simp
              with_reducible rfl
             rotate_left
             ·simp only [Act.put, List.setIfInBounds_toArray, List.set_cons_zero, List.set_cons_succ, i64_w, i32_w]
              rfl
             refine pure_ (i := 5) (N := some 38) (v := ?_) (a' := ?_) #[true, true, true, false, false, true, false, false, false, false, false, false, false, false] rfl rfl (zO HT_.o (by kernel_rfl)) (fun _ _ _ h => h) (Or.inl ⟨by rfl, ?_⟩) ?_ ?_
             rotate_left
             ·intro w'
              go_simp
              with_reducible rfl
             rotate_left
             ·simp only [Act.put, List.setIfInBounds_toArray, List.set_cons_zero, List.set_cons_succ, i64_w, i32_w]
              rfl
             refine pure_ (i := 6) (N := some 39) (v := ?_) (a' := ?_) #[true, true, true, false, false, true, true, false, false, false, false, false, false, false] rfl rfl (zO HT_.o (by kernel_rfl)) (fun _ _ _ h => h) (Or.inl ⟨by rfl, ?_⟩) ?_ ?_
             rotate_left
             ·intro w'
              go_simp
              with_reducible rfl
             rotate_left
             ·simp only [Act.put, List.setIfInBounds_toArray, List.set_cons_zero, List.set_cons_succ, i64_w, i32_w]
              rfl
             refine pure_ (i := 7) (N := some 40) (v := ?_) (a' := ?_) #[true, true, true, false, false, true, true, true, false, false, false, false, false, false] rfl rfl (zO HT_.o (by kernel_rfl)) (fun _ _ _ h => h) (Or.inl ⟨by rfl, ?_⟩) ?_ ?_
             rotate_left
             ·intro w'
              go_simp
              with_reducible rfl
             rotate_left
             ·simp only [Act.put, List.setIfInBounds_toArray, List.set_cons_zero, List.set_cons_succ, i64_w, i32_w]
              rfl
             refine take_ (i := 3) (N := some 36) (v := ?_) (a' := ?_) #[true, true, true, true, false, true, true, true, false, false, false, false, false, false] rfl rfl (yt HT_.o HW_.o (by kernel_rfl)) (fun _ _ _ h => h) (Or.inl ⟨by rfl, ?_⟩) hHeld ?_ ?_
             rotate_left
             ·rintro w' ⟨s0, s1, s2, s3, s4, s5, s6, s7, s8, s9, s10⟩
              go_simp
              with_reducible rfl
             rotate_left
             ·simp only [Act.put, List.setIfInBounds_toArray, List.set_cons_zero, List.set_cons_succ, i64_w, i32_w]
              rfl
             refine pure_ (i := 4) (N := some 37) (v := ?_) (a' := ?_) #[true, true, true, true, true, true, true, true, false, false, false, false, false, false] rfl rfl (zO HT_.o (by kernel_rfl)) (fun _ _ _ h => h) (Or.inl ⟨by rfl, ?_⟩) ?_ ?_
             rotate_left
             ·intro w'
              go_simp
              with_reducible rfl
             rotate_left
             ·simp only [Act.put, List.setIfInBounds_toArray, List.set_cons_zero, List.set_cons_succ, i64_w, i32_w]
              rfl
             refine take_ (i := 8) (N := some 41) (v := ?_) (a' := ?_) #[true, true, true, true, true, true, true, true, true, false, false, false, false, false] rfl rfl (yt HT_.o HW_.o (by kernel_rfl)) (fun _ _ _ h => h) (Or.inl ⟨by rfl, ?_⟩) hHeld ?_ ?_
             rotate_left
             ·rintro w' ⟨s0, s1, s2, s3, s4, s5, s6, s7, s8, s9, s10⟩
              go_simp
              with_reducible rfl
             rotate_left
             ·simp only [Act.put, List.setIfInBounds_toArray, List.set_cons_zero, List.set_cons_succ, i64_w, i32_w]
              rfl
             refine pure_ (i := 9) (N := some 42) (v := ?_) (a' := ?_) #[true, true, true, true, true, true, true, true, true, true, false, false, false, false] rfl rfl (zO HT_.o (by kernel_rfl)) (fun _ _ _ h => h) (Or.inl ⟨by rfl, ?_⟩) ?_ ?_
             rotate_left
             ·intro w'
              go_simp
              with_reducible rfl
             rotate_left
             ·simp only [Act.put, List.setIfInBounds_toArray, List.set_cons_zero, List.set_cons_succ, i64_w, i32_w]
              rfl
             refine pure_ (i := 10) (N := some 43) (v := ?_) (a' := ?_) #[true, true, true, true, true, true, true, true, true, true, true, false, false, false] rfl rfl (zO HT_.o (by kernel_rfl)) (fun _ _ _ h => h) (Or.inl ⟨by rfl, ?_⟩) ?_ ?_
             rotate_left
             ·intro w'
              go_simp
              with_reducible rfl
             rotate_left
             ·simp only [Act.put, List.setIfInBounds_toArray, List.set_cons_zero, List.set_cons_succ, i64_w, i32_w]
              rfl
             refine pure_ (i := 11) (N := some 44) (v := ?_) (a' := ?_) #[true, true, true, true, true, true, true, true, true, true, true, true, false, false] rfl rfl (zO HT_.o (by kernel_rfl)) (fun _ _ _ h => h) (Or.inl ⟨by rfl, ?_⟩) ?_ ?_
             rotate_left
             ·intro w'
              go_simp
              with_reducible rfl
             rotate_left
             ·simp only [Act.put, List.setIfInBounds_toArray, List.set_cons_zero, List.set_cons_succ, i64_w, i32_w]
              rfl
             refine pure_ (i := 12) (N := some 45) (v := ?_) (a' := ?_) #[true, true, true, true, true, true, true, true, true, true, true, true, true, false] rfl rfl (zO HT_.o (by kernel_rfl)) (fun _ _ _ h => h) (Or.inl ⟨by rfl, ?_⟩) ?_ ?_
             rotate_left
             ·intro w'
              go_simp
              with_reducible rfl
             rotate_left
             ·simp only [Act.put, List.setIfInBounds_toArray, List.set_cons_zero, List.set_cons_succ, i64_w, i32_w]
              rfl
             refine last_ (i := 13) (N := none) #[true, true, true, true, true, true, true, true, true, true, true, true, true, true] rfl rfl (YE HT_.o (by kernel_rfl)) (by decide) (fun K hK => ?_)
             refine skip_ (w1 := ?_) (by rfl) rfl ?_ ?_
             rotate_left
             ·go_simp
              rfl
             refine hK.out _ _ ?_
             clear hK K
             refine done_ (Yf HT_.o (by kernel_rfl)) ?_
             try go_wp2
             (try simp only [← Jp])
             go_roundg k1
             case measure => have := HK1.o; omega
             case rel => exact ⟨(y252), (wrap64 (4 - 1)), (by first | rfl | (simp; done) | (simp [*]; done) | kernel_rfl), H', ⟨by have := HK1.o; omega⟩, ⟨by (try simp only [Jp]); (with_reducible repeat (first | apply Kd.zz | apply Kd.zA | apply Kd.zF)); exact HQ40.o⟩, ⟨by (try simp only [Jp]); (with_reducible repeat (first | refine zg ?_ _ | refine zi ?_ | refine zh ?_ _)); refine zB ?_ (by have h_ := Kd.R_ne Jo.o Ja.o (by decide); intro e_; exact h_ (by rw [e_]; rfl)) _; (with_reducible repeat (first | refine zg ?_ _ | refine zi ?_ | refine zh ?_ _)); exact Ja.o⟩, ⟨by repeat (first | (with_reducible first | exact HB.o | apply zl | apply zf | apply zk | refine zm ?_ GB5.o | refine zm ?_ Jz.o) | exact HB.o)⟩⟩
            ·rw [if_neg c37] at H
             exact absurd H (by simp)
       ·rw [if_neg c20] at H
        exact absurd H (by simp)
      ·rw [if_neg c19] at H
       have BL : decide (0 ≤ JH) = false := decide_eq_false c19
       clear c19
       by_cases c41 : 3 < (Jd.length : Int)
       ·rw [if_pos c41] at H
        have c41b0 : decide (3 < (Jd.length : Int)) = true := decide_eq_true c41
        have c41b1 : decide (3 < Jd.length) = true := decide_eq_true (by omega)
        clear c41
        obtain ⟨y253, JI⟩ : ∃ y_ : List Int, y_ = (Jd.set (3 : Int).toNat (IntKind.u64.wrap ((IntKind.u64.wrap (wrap64 (Ji + 1))) + (IntKind.u64.wrap (65536 * (IntKind.u64.wrap (wrap64 (Jj + 1)))))))) := ⟨_, rfl⟩
        replace H : (some (y253, 0)) = some (r1, r2) := by first | (rw [JI]; with_reducible exact H) | (have H2_ := (Option.bind_some _ _).symm.trans H; rw [JI]; with_reducible exact H2_) | (have H2_ := (Option.bind_some _ _).symm.trans H; with_reducible exact H2_) | with_reducible exact H | (rw [JI]; exact H) | exact H
        have BM := ze.mk JI
        clear JI
        simp only [Option.some.injEq, Prod.mk.injEq] at H
        obtain ⟨rfl, rfl⟩ := H
        have BH : wr.cell? ⟨Jb, 0, none⟩ = some (.int .i64 Jh) := (zb Ja.o 0).trans rfl
        have BG : wr.cell? ⟨Jb, 1, none⟩ = some (.int .i64 Jg) := (zb Ja.o 1).trans rfl
        have BF : wr.cell? ⟨Jb, 2, none⟩ = some (.int .i64 Jf) := (zb Ja.o 2).trans rfl
        have BD : wr.cell? ⟨Jb, 3, none⟩ = some (.int .u64 Je) := (zb Ja.o 3).trans rfl
        have BC : wr.cell? ⟨Jb, 4, none⟩ = some (.int .i64 Jn) := (zb Ja.o 4).trans rfl
        have BA : wr.cell? ⟨Jb, 5, none⟩ = some (.int .i64 Jm) := (zb Ja.o 5).trans rfl
        have Bz : wr.cell? ⟨Jb, 6, none⟩ = some (.int .i64 Jl) := (zb Ja.o 6).trans rfl
        have Bw : wr.cell? ⟨Jb, 7, none⟩ = some (.int .i64 Jk) := (zb Ja.o 7).trans rfl
        have Bv : wr.cell? ⟨Jb, 8, none⟩ = some (.int .i64 Ji) := (zb Ja.o 8).trans rfl
        have Bu : wr.cell? ⟨Jb, 9, none⟩ = some (.int .i64 Jj) := (zb Ja.o 9).trans rfl
        have Bg := za Ja.o 0
        have Bf := za Ja.o 1
        have Be := za Ja.o 2
        have Bd := za Ja.o 3
        have Bc := za Ja.o 4
        have D7 := za Ja.o 5
        have D6 := za Ja.o 6
        have D5 := za Ja.o 7
        have DZ := za Ja.o 8
        have DY := za Ja.o 9
        have p42 : 0 ≤ (3 : Int) := (by omega)
        have q42 : (3 : Int) < ((Jd.length : Int) : Int) := of_decide_eq_true (by first | (with_reducible assumption) | assumption)
        have qi42 : (3 < Jd.length) = True := eq_true (by omega)
        obtain ⟨J5, J6⟩ := Kd.zY 0 Jo.o (3 : Int) p42 q42
        (try rw [show ((3 : Int)).toNat = 3 from rfl] at J5)
        (try simp only [Nat.reduceMul, Nat.zero_mul, Nat.zero_add, Nat.reduceAdd] at J5)
        (try rw [show ((3 : Int)).toNat = 3 from rfl] at J6)
        (try simp only [Nat.reduceMul, Nat.zero_mul, Nat.zero_add, Nat.reduceAdd] at J6)
        replace p42 := eq_true p42
        replace q42 := eq_true q42
        have BX := Kd.Zn Jo.o (3 : Int) (IntKind.u64.wrap ((IntKind.u64.wrap (wrap64 (Ji + 1))) + (IntKind.u64.wrap (65536 * (IntKind.u64.wrap (wrap64 (Jj + 1)))))))
        go_wp2_with (first | ((with_reducible refine zJ (t := 34) (p := 58) rfl ?_); refine zH (t := 34) (p := 58) (v := ?vo_w45) (w1 := (wr.setCell ⟨go5, (3 : Int).toNat, none⟩ (.int .u64 (IntKind.u64.wrap ((IntKind.u64.wrap (wrap64 (Ji + 1))) + (IntKind.u64.wrap (65536 * (IntKind.u64.wrap (wrap64 (Jj + 1)))))))))) ?hg ?ho ?hn ?hr ?_; (case ho => rfl); (case hg => rfl); (case hn => rfl); (case hr => first | (go_simp; done) | (go_simp; rfl)); intro w45 hw; have hg : wr.grownBy w45 (some go5) := (by rw [hw]; exact BX.2); have hp_ : Kd.R (Kd.int .u64) 34 w45 w.heap.size (fun _ => True) (.slice (some ⟨go5, 0, none⟩) Jd.length co5) y253 := (by rw [hw, BM.o]; exact BX.1); clear BX; have n0_ := ze.mk (hp_); have n1_ := ze.mk (yA (g := Jb) (o := .cells #[.int .i64 Jh, .int .i64 Jg, .int .i64 Jf, .int .u64 Je, .int .i64 Jn, .int .i64 Jm, .int .i64 Jl, .int .i64 Jk, .int .i64 Ji, .int .i64 Jj] 37 (0, 0)) (by (with_reducible repeat (first | refine zg ?_ _ | refine zi ?_ | refine zh ?_ _)); exact Ja.o) hg (Kd.R_ne Jo.o Ja.o (by decide))); have n2_ := ze.mk ((by rw [hw]; exact zm (HB.o) GB5.o : Below w.heap.size w w45)); clear Jo; clear Ja; clear HB; have Jo := n0_; have Ja := n1_; have HB := n2_; clear n0_ n1_ n2_; clear hg hw hp_))
        go_ret2
        exact ⟨_, by first | rfl | (simp [zy, zx] <;> rfl) | (simp [*, zy, zx] <;> rfl), by (with_reducible repeat (first | apply Kd.zz | apply Kd.zA | apply Kd.zF)); exact Jo.o, by repeat (first | (with_reducible first | exact HB.o | apply zl | apply zf | apply zk | refine zm ?_ Jz.o) | exact HB.o)⟩
       ·rw [if_neg c41] at H
        exact absurd H (by simp)
   ·rw [if_neg c6] at H
    exact absurd H (by simp)
  ·rw [if_neg c4] at H
   exact absurd H (by simp)
 ·replace c3 := Bool.eq_false_iff.mpr c3
  subst c3
  have H1 : (some (([] : List Int), 1)) = some (r1, r2) := by rw [if_neg (show ¬ (false = true) by decide)] at H; exact H
  clear H
  have H := H1
  clear H1
  simp only [Option.some.injEq, Prod.mk.injEq] at H
  obtain ⟨rfl, rfl⟩ := H
  go_enter Tryz.func56, Tryz.ntmps56
  go_wp2_with (first | ((with_reducible refine zD (N := 1) rfl ?_); refine zC ?hg (N := 1) ?hd (cs := #[.int .i64 Jh, .int .i64 Jg, .int .i64 Jf, .int .u64 Je, .int .i64 Jn, .int .i64 Jm, .int .i64 Jl, .int .i64 Jk, .int .i64 Ji, .int .i64 Jj]) (t := 37) ?hr ?_; (case hd => rfl); (case hg => rfl); (case hr => first | (go_simp; done) | (go_simp; rfl)); intro Jb hg w46 hbox hb; have n0_ := ze.mk (zu (by repeat (first | (with_reducible first | exact HB.o | apply zl | apply zf | apply zk) | exact HB.o)) hb); have n1_ := ze.mk (hbox); have n2_ := ze.mk ((by rw [hg]; exact (zt (by repeat (first | (with_reducible first | exact HB.o | apply zl | apply zf | apply zk) | exact HB.o))) : w.heap.size ≤ Jb)); have n3_ := ze.mk ((by rw [hg]; exact (zt (by repeat (first | (with_reducible first | exact HB.o | apply zl | apply zf | apply zk) | exact HB.o))) : w.heap.size ≤ Jb)); clear HB; have HB := n0_; have Ja := n1_; have Jag := n2_; have Jz := n3_; clear n0_ n1_ n2_ n3_; clear hb hbox hg; have Bt : w46.cell? ⟨Jb, 0, none⟩ = some (.int .i64 Jh) := (zb Ja.o 0).trans rfl; have Br : w46.cell? ⟨Jb, 1, none⟩ = some (.int .i64 Jg) := (zb Ja.o 1).trans rfl; have Bq : w46.cell? ⟨Jb, 2, none⟩ = some (.int .i64 Jf) := (zb Ja.o 2).trans rfl; have Bp : w46.cell? ⟨Jb, 3, none⟩ = some (.int .u64 Je) := (zb Ja.o 3).trans rfl; have Bo : w46.cell? ⟨Jb, 4, none⟩ = some (.int .i64 Jn) := (zb Ja.o 4).trans rfl; have Bn : w46.cell? ⟨Jb, 5, none⟩ = some (.int .i64 Jm) := (zb Ja.o 5).trans rfl; have Bl : w46.cell? ⟨Jb, 6, none⟩ = some (.int .i64 Jl) := (zb Ja.o 6).trans rfl; have Bj : w46.cell? ⟨Jb, 7, none⟩ = some (.int .i64 Jk) := (zb Ja.o 7).trans rfl; have Bi : w46.cell? ⟨Jb, 8, none⟩ = some (.int .i64 Ji) := (zb Ja.o 8).trans rfl; have Bh : w46.cell? ⟨Jb, 9, none⟩ = some (.int .i64 Jj) := (zb Ja.o 9).trans rfl; have DW := za Ja.o 0; have DV := za Ja.o 1; have DU := za Ja.o 2; have DT := za Ja.o 3; have DR := za Ja.o 4; have DN := za Ja.o 5; have DL := za Ja.o 6; have DK := za Ja.o 7; have DJ := za Ja.o 8; have DI := za Ja.o 9) | ((with_reducible refine zN (f := 74) rfl ?_); refine yh (some 7) rfl rfl Tryz.func74 (by kernel_rfl) rfl #[.agg #[.int .i64 Jh, .int .i64 Jg, .int .i64 Jf, .int .u64 Je, .int .i64 Jn, .int .i64 Jm, .int .i64 Jl, .int .i64 Jk, .int .i64 Ji, .int .i64 Jj]] rfl (by (try simp only [List.map_toArray, List.map_cons, List.map_nil]); first | done | rfl | (simp only [List.length_drop, List.length_take]; rfl)) ?_; (with_reducible refine (escritoireref06_Right.calls k Jh Jg Jf Je Jn Jm Jl Jk Ji Jj false _ A2.o).mono ?_); rintro e w48 ⟨rfl, hb⟩; refine ⟨_, rfl, ?_⟩; have n0_ := ze.mk (zK (g := Jb) (o := .cells #[.int .i64 Jh, .int .i64 Jg, .int .i64 Jf, .int .u64 Je, .int .i64 Jn, .int .i64 Jm, .int .i64 Jl, .int .i64 Jk, .int .i64 Ji, .int .i64 Jj] 37 (0, 0)) (by (with_reducible repeat (first | refine zg ?_ _ | refine zi ?_ | refine zh ?_ _)); exact Ja.o) hb); have n1_ := ze.mk (zu (by repeat (first | (with_reducible first | exact HB.o | apply zl | apply zf | apply zk | refine zm ?_ Jz.o) | exact HB.o)) hb); clear Ja; clear HB; have Ja := n0_; have HB := n1_; clear n0_ n1_; (try clear hb); (try clear hb2); (try clear hk); (try clear hi)))
  go_ret2
  exact ⟨_, by first | rfl | (simp [zy, zx] <;> rfl) | (simp [*, zy, zx] <;> rfl), by first | exact Kd.R_nil _ _ _ _ _ | exact Kd.N_nil _ _ _ _ _ | exact Kd.V_nil _ _ _ _ _ | exact Kd.Q_nil _ _ _ _ _ | exact Kd.S_nil _ _ _ _ _, by repeat (first | (with_reducible first | exact HB.o | apply zl | apply zf | apply zk | refine zm ?_ Jz.o) | exact HB.o)⟩

end Go.Proofs.YtkbhilhefnahpaaGreat.Print
