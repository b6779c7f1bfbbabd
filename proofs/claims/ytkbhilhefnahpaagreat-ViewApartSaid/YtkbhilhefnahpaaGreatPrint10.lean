import Derived.Test.YtkbhilhefnahpaaGreatPrint0
import Derived.Test.YtkbhilhefnahpaaGreatPrint1
import Derived.Test.YtkbhilhefnahpaaGreatPrint9
namespace Go.Proofs.YtkbhilhefnahpaaGreat.Print
open Go.RowKit Go.Proofs.YtkbhilhefnahpaaGreatW.PrintWords Go.Proofs.YtkbhilhefnahpaaGreatW.PrintLast Go.Proofs.YtkbhilhefnahpaaGreatW.PrintMore
attribute [local go_sem] yS yR Zq Zp yH yG Zb Za   -- for this text's walks alone
set_option linter.unusedVariables false
set_option linter.unusedSimpArgs false

attribute [local go_sem high] eqA37
/-! ### escritoireref06_Right: function 74 -/
def escritoireref06_Right.l0 : Nat → Int → Int → Int → Int → Int → Int → Int → Int → Int → Int → Int → Option (Bool)
 | 0, _, _, _, _, _, _, _, _, _, _, _ => none
 | k + 1, x3, Jq, Jp, Jo, Jy, Jw, Jv, Ju, Jt, Js, Jr => if x3 < 5 then (if x3 = 0 then ((escritoireref06_block.f Jw).bind fun t234 => (if t234 = true then (escritoireref06_Right.l0 k (wrap64 (x3 + 1)) Jq Jp Jo Jy Jw Jv Ju Jt Js Jr) else (some false))) else (if x3 = 1 then ((escritoireref06_block.f Jv).bind fun JC => (if JC = true then (escritoireref06_Right.l0 k (wrap64 (x3 + 1)) Jq Jp Jo Jy Jw Jv Ju Jt Js Jr) else (some false))) else (if x3 = 2 then ((escritoireref06_block.f Ju).bind fun t236 => (if t236 = true then (escritoireref06_Right.l0 k (wrap64 (x3 + 1)) Jq Jp Jo Jy Jw Jv Ju Jt Js Jr) else (some false))) else (if x3 = 3 then ((escritoireref06_block.f Jt).bind fun JB => (if JB = true then (escritoireref06_Right.l0 k (wrap64 (x3 + 1)) Jq Jp Jo Jy Jw Jv Ju Jt Js Jr) else (some false))) else (if x3 = 4 then ((escritoireref06_block.f Js).bind fun JA => (if JA = true then (escritoireref06_Right.l0 k (wrap64 (x3 + 1)) Jq Jp Jo Jy Jw Jv Ju Jt Js Jr) else (some false))) else (none)))))) else (if Jq ≥ 1 then (if Jq ≤ 3 then (if Jp ≥ 0 then (if Jp ≤ 255 then (if Jo ≥ 0 then (if Jo ≤ 2688 then ((escritoireref06_block.f Jr).bind fun Gm => (some Gm)) else (some false)) else (some false)) else (some false)) else (some false)) else (some false)) else (some false))
def escritoireref06_Right.f (k : Nat) (Jc : Int) (Je : Int) (Jd : Int) (Jk : Int) (Jj : Int) (Ji : Int) (Jh : Int) (Jg : Int) (Jf : Int) (Jl : Int) : Option (Bool) := if Jc = 0 then ((escritoireref06_None.f Jk).bind fun Jm => (some (Jc == Jm.1 && (Je == Jm.2.1 && (Jd == Jm.2.2.1 && (Jk == Jm.2.2.2.1 && ((Jj == Jm.2.2.2.2.1 && (Ji == Jm.2.2.2.2.2.1 && (Jh == Jm.2.2.2.2.2.2.1 && (Jg == Jm.2.2.2.2.2.2.2.1 && (Jf == Jm.2.2.2.2.2.2.2.2.1))))) && (Jl == Jm.2.2.2.2.2.2.2.2.2)))))))) else (escritoireref06_Right.l0 k 0 Jc Je Jd Jk Jj Ji Jh Jg Jf Jl)
set_option maxHeartbeats 8000000 in
set_option maxRecDepth 100000 in
theorem escritoireref06_Right.calls (k : Nat) (Jc : Int) (Je : Int) (Jd : Int) (Jk : Int) (Jj : Int) (Ji : Int) (Jh : Int) (Jg : Int) (Jf : Int) (Jl : Int) (r : Bool) (w : World) (h : escritoireref06_Right.f k Jc Je Jd Jk Jj Ji Jh Jg Jf Jl = some r) :
  Calls Tryz.prog 74 #[.agg #[.int .i64 Jc, .int .i64 Je, .int .i64 Jd, .int .u64 Jk, .int .i64 Jj, .int .i64 Ji, .int .i64 Jh, .int .i64 Jg, .int .i64 Jf, .int .i64 Jl]] w fun e w' => e = .returned (.bool r) ∧ Below w.heap.size w w' := by
 have hu37 := Tryz.underlying37
 have HB := ze.mk (Below.refl w.heap.size w)
 have H : (if Jc = 0 then ((escritoireref06_None.f Jk).bind fun Jm => (some (Jc == Jm.1 && (Je == Jm.2.1 && (Jd == Jm.2.2.1 && (Jk == Jm.2.2.2.1 && ((Jj == Jm.2.2.2.2.1 && (Ji == Jm.2.2.2.2.2.1 && (Jh == Jm.2.2.2.2.2.2.1 && (Jg == Jm.2.2.2.2.2.2.2.1 && (Jf == Jm.2.2.2.2.2.2.2.2.1))))) && (Jl == Jm.2.2.2.2.2.2.2.2.2)))))))) else (escritoireref06_Right.l0 k 0 Jc Je Jd Jk Jj Ji Jh Jg Jf Jl)) = some r := h
 clear h
 by_cases c2 : Jc = 0
 ·rw [if_pos c2] at H
  have c2b0 : (Jc == 0) = true := beq_iff_eq.mpr c2
  have c2b1 : (Jc != 0) = false := bne_eq_false_iff_eq.mpr c2
  clear c2
  replace H := Option.bind_eq_some_iff.mp H
  obtain ⟨⟨t224, t225, t226, t227, t228, t229, t230, t231, t232, t233⟩, A30, H⟩ := H
  replace H : (some (Jc == t224 && (Je == t225 && (Jd == t226 && (Jk == t227 && ((Jj == t228 && (Ji == t229 && (Jh == t230 && (Jg == t231 && (Jf == t232))))) && (Jl == t233))))))) = some r := H
  have A3 := ze.mk A30
  clear A30
  obtain rfl := Option.some.inj H
  go_enter Tryz.func74, Tryz.ntmps74
  try go_wp2_with (first | ((with_reducible refine zD (N := 1) rfl ?_); refine zC ?hg (N := 1) ?hd (cs := #[.int .i64 Jc, .int .i64 Je, .int .i64 Jd, .int .u64 Jk, .int .i64 Jj, .int .i64 Ji, .int .i64 Jh, .int .i64 Jg, .int .i64 Jf, .int .i64 Jl]) (t := 37) ?hr ?_; (case hd => rfl); (case hg => rfl); (case hr => first | (go_simp; done) | (go_simp; rfl)); intro Jb hg w4 hbox hb; have n0_ := ze.mk (zu (by repeat (first | (with_reducible first | exact HB.o | apply zl | apply zf | apply zk) | exact HB.o)) hb); have n1_ := ze.mk (hbox); have n2_ := ze.mk ((by rw [hg]; exact (zt (by repeat (first | (with_reducible first | exact HB.o | apply zl | apply zf | apply zk) | exact HB.o))) : w.heap.size ≤ Jb)); have n3_ := ze.mk ((by rw [hg]; exact (zt (by repeat (first | (with_reducible first | exact HB.o | apply zl | apply zf | apply zk) | exact HB.o))) : w.heap.size ≤ Jb)); clear HB; have HB := n0_; have Ja := n1_; have Jd1 := n2_; have Jn := n3_; clear n0_ n1_ n2_ n3_; clear hb hbox hg; have Gl : w4.cell? ⟨Jb, 0, none⟩ = some (.int .i64 Jc) := (zb Ja.o 0).trans rfl; have Gj : w4.cell? ⟨Jb, 1, none⟩ = some (.int .i64 Je) := (zb Ja.o 1).trans rfl; have Gi : w4.cell? ⟨Jb, 2, none⟩ = some (.int .i64 Jd) := (zb Ja.o 2).trans rfl; have Gh : w4.cell? ⟨Jb, 3, none⟩ = some (.int .u64 Jk) := (zb Ja.o 3).trans rfl; have Gg : w4.cell? ⟨Jb, 4, none⟩ = some (.int .i64 Jj) := (zb Ja.o 4).trans rfl; have Gf : w4.cell? ⟨Jb, 5, none⟩ = some (.int .i64 Ji) := (zb Ja.o 5).trans rfl; have Gd : w4.cell? ⟨Jb, 6, none⟩ = some (.int .i64 Jh) := (zb Ja.o 6).trans rfl; have Gc : w4.cell? ⟨Jb, 7, none⟩ = some (.int .i64 Jg) := (zb Ja.o 7).trans rfl; have Gb : w4.cell? ⟨Jb, 8, none⟩ = some (.int .i64 Jf) := (zb Ja.o 8).trans rfl; have Ga : w4.cell? ⟨Jb, 9, none⟩ = some (.int .i64 Jl) := (zb Ja.o 9).trans rfl; have JX := za Ja.o 0; have JW := za Ja.o 1; have JV := za Ja.o 2; have JU := za Ja.o 3; have JS := za Ja.o 4; have JR := za Ja.o 5; have JQ := za Ja.o 6; have JP := za Ja.o 7; have JO := za Ja.o 8; have JN := za Ja.o 9))
  have n0_ := ze.mk (zi Ja.o)
  have n1_ := ze.mk (zk HB.o)
  clear Ja
  clear HB
  have Ja := n0_
  have HB := n1_
  clear n0_ n1_
  refine Yu (n := 6) (S := fun w' => w'.cell? ⟨Jb, 0, none⟩ = some (.int .i64 Jc) ∧ w'.cell? ⟨Jb, 1, none⟩ = some (.int .i64 Je) ∧ w'.cell? ⟨Jb, 2, none⟩ = some (.int .i64 Jd) ∧ w'.cell? ⟨Jb, 3, none⟩ = some (.int .u64 Jk) ∧ w'.cell? ⟨Jb, 4, none⟩ = some (.int .i64 Jj) ∧ w'.cell? ⟨Jb, 5, none⟩ = some (.int .i64 Ji) ∧ w'.cell? ⟨Jb, 6, none⟩ = some (.int .i64 Jh) ∧ w'.cell? ⟨Jb, 7, none⟩ = some (.int .i64 Jg) ∧ w'.cell? ⟨Jb, 8, none⟩ = some (.int .i64 Jf) ∧ w'.cell? ⟨Jb, 9, none⟩ = some (.int .i64 Jl)) (ds := []) #[false, false, false, false, false, false] (by kernel_rfl) rfl rfl ⟨(zb Ja.o 0).trans rfl, (zb Ja.o 1).trans rfl, (zb Ja.o 2).trans rfl, (zb Ja.o 3).trans rfl, (zb Ja.o 4).trans rfl, (zb Ja.o 5).trans rfl, (zb Ja.o 6).trans rfl, (zb Ja.o 7).trans rfl, (zb Ja.o 8).trans rfl, (zb Ja.o 9).trans rfl⟩ (fun hHeld => ?_)
  generalize w4.drew = w6 at Ja HB hHeld ⊢
  refine pure_ (i := 1) (N := some 8) (v := ?_) (a' := ?_) #[false, true, false, false, false, false] rfl rfl (by kernel_rfl) (fun _ _ _ h => h) (Or.inl ⟨by rfl, ?_⟩) ?_ ?_
  rotate_left
  ·intro w'
   go_simp
   with_reducible rfl
  rotate_left
  ·simp only [Act.put, List.setIfInBounds_toArray, List.set_cons_zero, List.set_cons_succ, i64_w, i32_w]
   rfl
  refine take_ (i := 0) (N := some 7) (v := ?_) (a' := ?_) #[true, true, false, false, false, false] rfl rfl (by kernel_rfl) (fun _ _ _ h => h) (Or.inl ⟨by rfl, ?_⟩) hHeld ?_ ?_
  rotate_left
  ·rintro w' ⟨s0, s1, s2, s3, s4, s5, s6, s7, s8, s9⟩
   go_simp
   with_reducible rfl
  rotate_left
  ·simp only [Act.put, List.setIfInBounds_toArray, List.set_cons_zero, List.set_cons_succ, i64_w, i32_w]
   rfl
  refine take_ (i := 2) (N := some 9) (v := ?_) (a' := ?_) #[true, true, true, false, false, false] rfl rfl (by kernel_rfl) (fun _ _ _ h => h) (Or.inl ⟨by rfl, ?_⟩) hHeld ?_ ?_
  rotate_left
  ·rintro w' ⟨s0, s1, s2, s3, s4, s5, s6, s7, s8, s9⟩
   go_simp
   with_reducible rfl
  rotate_left
  ·simp only [Act.put, List.setIfInBounds_toArray, List.set_cons_zero, List.set_cons_succ, i64_w, i32_w]
   rfl
  refine one_ (i := 3) (N := some 10) #[true, true, true, true, false, false] rfl rfl (by kernel_rfl) (by decide) (fun K hK => ?_)
  refine goes_ Tryz.func70 (by kernel_rfl) rfl #[.int .u64 Jk] (by rfl) rfl rfl (by (try simp only [List.map_toArray, List.map_cons, List.map_nil]); first | done | rfl | (simp only [List.length_drop, List.length_take]; rfl)) ?_
  with_reducible refine (escritoireref06_None.calls Jk t224 t225 t226 t227 t228 t229 t230 t231 t232 t233 _ A3.o).mono ?_
  rintro e w7 ⟨rfl, hb⟩
  refine ⟨_, rfl, ?_⟩
  have n0_ := ze.mk (zK (g := Jb) (o := .cells #[.int .i64 Jc, .int .i64 Je, .int .i64 Jd, .int .u64 Jk, .int .i64 Jj, .int .i64 Ji, .int .i64 Jh, .int .i64 Jg, .int .i64 Jf, .int .i64 Jl] 37 (0, 0)) (by (with_reducible repeat (first | refine zg ?_ _ | refine zi ?_ | refine zh ?_ _)); exact Ja.o) hb)
  have n1_ := ze.mk (zu (by repeat (first | (with_reducible first | exact HB.o | apply zl | apply zf | apply zk | refine zm ?_ Jn.o) | exact HB.o)) hb)
  clear Ja
  clear HB
  have Ja := n0_
  have HB := n1_
  clear n0_ n1_
  (try clear hb)
  (try clear hb2)
  (try clear hk)
  (try clear hi)
  refine hK.out _ _ ⟨(zb Ja.o 0).trans rfl, (zb Ja.o 1).trans rfl, (zb Ja.o 2).trans rfl, (zb Ja.o 3).trans rfl, (zb Ja.o 4).trans rfl, (zb Ja.o 5).trans rfl, (zb Ja.o 6).trans rfl, (zb Ja.o 7).trans rfl, (zb Ja.o 8).trans rfl, (zb Ja.o 9).trans rfl⟩ (fun hHeld => ?_)
  clear hK K
  refine norm_ (a' := ?_) ?_ ?_
  rotate_left
  ·show Act.put _ (some 10) _ = _
   simp only [Act.put, List.setIfInBounds_toArray, List.set_cons_zero, List.set_cons_succ, i64_w, i32_w]
   rfl
  refine pure_ (i := 4) (N := some 11) (v := ?_) (a' := ?_) #[true, true, true, true, true, false] rfl rfl (by kernel_rfl) (fun _ _ _ h => h) (Or.inl ⟨by rfl, ?_⟩) ?_ ?_
  rotate_left
  ·intro w'
   go_simp
   with_reducible rfl
  rotate_left
  ·simp only [Act.put, List.setIfInBounds_toArray, List.set_cons_zero, List.set_cons_succ, i64_w, i32_w]
   rfl
  refine pure_ (i := 5) (N := some 2) (v := ?_) (a' := ?_) #[true, true, true, true, true, true] rfl rfl (by kernel_rfl) (fun _ _ _ h => h) (Or.inl ⟨by rfl, ?_⟩) ?_ ?_
  rotate_left
  ·intro w'
   go_simp
   with_reducible rfl
  rotate_left
  ·simp only [Act.put, List.setIfInBounds_toArray, List.set_cons_zero, List.set_cons_succ, i64_w, i32_w]
   rfl
  refine done_ (by kernel_rfl) ?_
  try go_wp2
  go_ret
  exact ⟨by first | rfl | (simp [zy, zx] <;> rfl) | (simp [*, zy, zx] <;> rfl), by repeat (first | (with_reducible first | exact HB.o | apply zl | apply zf | apply zk | refine zm ?_ Jn.o) | exact HB.o)⟩
 ·rw [if_neg c2] at H
  have c2b0 : (Jc == 0) = false := beq_eq_false_iff_ne.mpr c2
  have c2b1 : (Jc != 0) = true := bne_iff_ne.mpr c2
  have H' := ze.mk H
  clear H
  go_enter Tryz.func74, Tryz.ntmps74
  go_wp2_with (first | ((with_reducible refine zD (N := 1) rfl ?_); refine zC ?hg (N := 1) ?hd (cs := #[.int .i64 Jc, .int .i64 Je, .int .i64 Jd, .int .u64 Jk, .int .i64 Jj, .int .i64 Ji, .int .i64 Jh, .int .i64 Jg, .int .i64 Jf, .int .i64 Jl]) (t := 37) ?hr ?_; (case hd => rfl); (case hg => rfl); (case hr => first | (go_simp; done) | (go_simp; rfl)); intro Jb hg w8 hbox hb; have n0_ := ze.mk (zu (by repeat (first | (with_reducible first | exact HB.o | apply zl | apply zf | apply zk) | exact HB.o)) hb); have n1_ := ze.mk (hbox); have n2_ := ze.mk ((by rw [hg]; exact (zt (by repeat (first | (with_reducible first | exact HB.o | apply zl | apply zf | apply zk) | exact HB.o))) : w.heap.size ≤ Jb)); have n3_ := ze.mk ((by rw [hg]; exact (zt (by repeat (first | (with_reducible first | exact HB.o | apply zl | apply zf | apply zk) | exact HB.o))) : w.heap.size ≤ Jb)); clear HB; have HB := n0_; have Ja := n1_; have Jd1 := n2_; have Jn := n3_; clear n0_ n1_ n2_ n3_; clear hb hbox hg; have J9 : w8.cell? ⟨Jb, 0, none⟩ = some (.int .i64 Jc) := (zb Ja.o 0).trans rfl; have J8 : w8.cell? ⟨Jb, 1, none⟩ = some (.int .i64 Je) := (zb Ja.o 1).trans rfl; have J7 : w8.cell? ⟨Jb, 2, none⟩ = some (.int .i64 Jd) := (zb Ja.o 2).trans rfl; have J6 : w8.cell? ⟨Jb, 3, none⟩ = some (.int .u64 Jk) := (zb Ja.o 3).trans rfl; have J5 : w8.cell? ⟨Jb, 4, none⟩ = some (.int .i64 Jj) := (zb Ja.o 4).trans rfl; have J4 : w8.cell? ⟨Jb, 5, none⟩ = some (.int .i64 Ji) := (zb Ja.o 5).trans rfl; have J3 : w8.cell? ⟨Jb, 6, none⟩ = some (.int .i64 Jh) := (zb Ja.o 6).trans rfl; have J2 : w8.cell? ⟨Jb, 7, none⟩ = some (.int .i64 Jg) := (zb Ja.o 7).trans rfl; have JZ : w8.cell? ⟨Jb, 8, none⟩ = some (.int .i64 Jf) := (zb Ja.o 8).trans rfl; have JY : w8.cell? ⟨Jb, 9, none⟩ = some (.int .i64 Jl) := (zb Ja.o 9).trans rfl; have JM := za Ja.o 0; have JL := za Ja.o 1; have JK := za Ja.o 2; have JJ := za Ja.o 3; have JI := za Ja.o 4; have JH := za Ja.o 5; have JG := za Ja.o 6; have JF := za Ja.o 7; have JE := za Ja.o 8; have JD := za Ja.o 9))
  go_loopg [3] k (fun kq v3 w' => ∃ (Jz : Int), v3 = .int .i64 Jz ∧ ze (escritoireref06_Right.l0 kq Jz Jc Je Jd Jk Jj Ji Jh Jg Jf Jl = some r) ∧ ze (kq ≤ k) ∧ ze (w'.heap[Jb]? = some (.cells #[.int .i64 Jc, .int .i64 Je, .int .i64 Jd, .int .u64 Jk, .int .i64 Jj, .int .i64 Ji, .int .i64 Jh, .int .i64 Jg, .int .i64 Jf, .int .i64 Jl] 37 (0, 0))) ∧ ze (Below w.heap.size w w'))
  case atStart => exact ⟨(0), (by first | rfl | (simp; done) | (simp [*]; done) | kernel_rfl), H', ⟨Nat.le_refl _⟩, ⟨by (with_reducible repeat (first | refine zg ?_ _ | refine zi ?_ | refine zh ?_ _)); exact Ja.o⟩, ⟨by repeat (first | (with_reducible first | exact HB.o | apply zl | apply zf | apply zk | refine zm ?_ Jn.o) | exact HB.o)⟩⟩
  case round =>
   clear H'
   try clear c2
   try clear c2b0
   try clear c2b1
   try clear p2
   try clear c7
   try clear Gl
   try clear Gj
   try clear Gi
   try clear Gh
   try clear Gg
   try clear Gf
   try clear Gd
   try clear Gc
   try clear Gb
   try clear Ga
   try clear J9
   try clear J8
   try clear J7
   try clear J6
   try clear J5
   try clear J4
   try clear J3
   try clear J2
   try clear JZ
   try clear JY
   try clear JX
   try clear JW
   try clear JV
   try clear JU
   try clear JS
   try clear JR
   try clear JQ
   try clear JP
   try clear JO
   try clear JN
   try clear JM
   try clear JL
   try clear JK
   try clear JJ
   try clear JI
   try clear JH
   try clear JG
   try clear JF
   try clear JE
   try clear JD
   obtain ⟨Jz, rfl, HA, HK1, Ja, HB⟩ := hrel
   cases gk with
   | zero => exact absurd HA.o (by simp [escritoireref06_Right.l0])
   | succ k1 =>
    have H := HA.o
    clear HA
    simp only [escritoireref06_Right.l0] at H
    by_cases c10 : Jz < 5
    ·rw [if_pos c10] at H
     have Jd0 : decide (Jz < 5) = true := decide_eq_true c10
     clear c10
     by_cases c11 : Jz = 0
     ·subst c11
      have H1 : ((escritoireref06_block.f Jj).bind fun t234 => (if t234 = true then (escritoireref06_Right.l0 k1 (wrap64 (0 + 1)) Jc Je Jd Jk Jj Ji Jh Jg Jf Jl) else (some false))) = some r := by rw [if_pos rfl] at H; exact H
      clear H
      have H := H1
      clear H1
      replace H := Option.bind_eq_some_iff.mp H
      obtain ⟨t234, A120, H⟩ := H
      replace H : (if t234 = true then (escritoireref06_Right.l0 k1 (wrap64 (0 + 1)) Jc Je Jd Jk Jj Ji Jh Jg Jf Jl) else (some false)) = some r := H
      have A12 := ze.mk A120
      clear A120
      by_cases c13 : t234 = true
      ·subst c13
       have H1 : (escritoireref06_Right.l0 k1 (wrap64 (0 + 1)) Jc Je Jd Jk Jj Ji Jh Jg Jf Jl) = some r := by rw [if_pos rfl] at H; exact H
       clear H
       have H := H1
       clear H1
       have H' := ze.mk H
       clear H
       have JdT : wr.cell? ⟨Jb, 0, none⟩ = some (.int .i64 Jc) := (zb Ja.o 0).trans rfl
       have JdS : wr.cell? ⟨Jb, 1, none⟩ = some (.int .i64 Je) := (zb Ja.o 1).trans rfl
       have JdR : wr.cell? ⟨Jb, 2, none⟩ = some (.int .i64 Jd) := (zb Ja.o 2).trans rfl
       have JdQ : wr.cell? ⟨Jb, 3, none⟩ = some (.int .u64 Jk) := (zb Ja.o 3).trans rfl
       have JdP : wr.cell? ⟨Jb, 4, none⟩ = some (.int .i64 Jj) := (zb Ja.o 4).trans rfl
       have JdO : wr.cell? ⟨Jb, 5, none⟩ = some (.int .i64 Ji) := (zb Ja.o 5).trans rfl
       have JdN : wr.cell? ⟨Jb, 6, none⟩ = some (.int .i64 Jh) := (zb Ja.o 6).trans rfl
       have JdM : wr.cell? ⟨Jb, 7, none⟩ = some (.int .i64 Jg) := (zb Ja.o 7).trans rfl
       have JdL : wr.cell? ⟨Jb, 8, none⟩ = some (.int .i64 Jf) := (zb Ja.o 8).trans rfl
       have JdK : wr.cell? ⟨Jb, 9, none⟩ = some (.int .i64 Jl) := (zb Ja.o 9).trans rfl
       have Ja9 := za Ja.o 0
       have Ja8 := za Ja.o 1
       have Ja7 := za Ja.o 2
       have Ja6 := za Ja.o 3
       have Ja5 := za Ja.o 4
       have Ja4 := za Ja.o 5
       have Ja3 := za Ja.o 6
       have Ja2 := za Ja.o 7
       have Ja1 := za Ja.o 8
       have Ja0 := za Ja.o 9
       go_wp2_with (first | ((with_reducible refine zN (f := 92) rfl ?_); refine yh (some 20) rfl rfl Tryz.func92 (by kernel_rfl) rfl #[.int .i64 Jj] rfl (by (try simp only [List.map_toArray, List.map_cons, List.map_nil]); first | done | rfl | (simp only [List.length_drop, List.length_take]; rfl)) ?_; (with_reducible refine (escritoireref06_block.calls Jj true _ A12.o).mono ?_); rintro e w' ⟨rfl, ⟨nd, rfl⟩⟩; refine ⟨_, rfl, ?_⟩))
       go_roundg k1
       case measure => have := HK1.o; omega
       case rel => exact ⟨(wrap64 (0 + 1)), (by first | rfl | (simp; done) | (simp [*]; done) | kernel_rfl), H', ⟨by have := HK1.o; omega⟩, ⟨by (with_reducible repeat (first | refine zg ?_ _ | refine zi ?_ | refine zh ?_ _)); exact Ja.o⟩, ⟨by repeat (first | (with_reducible first | exact HB.o | apply zl | apply zf | apply zk | refine zm ?_ Jn.o) | exact HB.o)⟩⟩
      ·replace c13 := Bool.eq_false_iff.mpr c13
       subst c13
       have H1 : (some false) = some r := by rw [if_neg (show ¬ (false = true) by decide)] at H; exact H
       clear H
       have H := H1
       clear H1
       obtain rfl := Option.some.inj H
       have JdJ : wr.cell? ⟨Jb, 0, none⟩ = some (.int .i64 Jc) := (zb Ja.o 0).trans rfl
       have JdI : wr.cell? ⟨Jb, 1, none⟩ = some (.int .i64 Je) := (zb Ja.o 1).trans rfl
       have JdH : wr.cell? ⟨Jb, 2, none⟩ = some (.int .i64 Jd) := (zb Ja.o 2).trans rfl
       have JdG : wr.cell? ⟨Jb, 3, none⟩ = some (.int .u64 Jk) := (zb Ja.o 3).trans rfl
       have JdF : wr.cell? ⟨Jb, 4, none⟩ = some (.int .i64 Jj) := (zb Ja.o 4).trans rfl
       have JdE : wr.cell? ⟨Jb, 5, none⟩ = some (.int .i64 Ji) := (zb Ja.o 5).trans rfl
       have JdD : wr.cell? ⟨Jb, 6, none⟩ = some (.int .i64 Jh) := (zb Ja.o 6).trans rfl
       have JdC : wr.cell? ⟨Jb, 7, none⟩ = some (.int .i64 Jg) := (zb Ja.o 7).trans rfl
       have JdB : wr.cell? ⟨Jb, 8, none⟩ = some (.int .i64 Jf) := (zb Ja.o 8).trans rfl
       have JdA : wr.cell? ⟨Jb, 9, none⟩ = some (.int .i64 Jl) := (zb Ja.o 9).trans rfl
       have JaZ := za Ja.o 0
       have JaY := za Ja.o 1
       have JaX := za Ja.o 2
       have JaW := za Ja.o 3
       have JaV := za Ja.o 4
       have JaU := za Ja.o 5
       have JaT := za Ja.o 6
       have JaS := za Ja.o 7
       have JaR := za Ja.o 8
       have JaQ := za Ja.o 9
       go_wp2_with (first | ((with_reducible refine zN (f := 92) rfl ?_); refine yh (some 20) rfl rfl Tryz.func92 (by kernel_rfl) rfl #[.int .i64 Jj] rfl (by (try simp only [List.map_toArray, List.map_cons, List.map_nil]); first | done | rfl | (simp only [List.length_drop, List.length_take]; rfl)) ?_; (with_reducible refine (escritoireref06_block.calls Jj false _ A12.o).mono ?_); rintro e w' ⟨rfl, ⟨nd, rfl⟩⟩; refine ⟨_, rfl, ?_⟩))
       go_ret
       exact ⟨by first | rfl | (simp [zy, zx] <;> rfl) | (simp [*, zy, zx] <;> rfl), by repeat (first | (with_reducible first | exact HB.o | apply zl | apply zf | apply zk | refine zm ?_ Jn.o) | exact HB.o)⟩
     ·rw [if_neg c11] at H
      by_cases c16 : Jz = 1
      ·subst c16
       have H1 : ((escritoireref06_block.f Ji).bind fun JC => (if JC = true then (escritoireref06_Right.l0 k1 (wrap64 (1 + 1)) Jc Je Jd Jk Jj Ji Jh Jg Jf Jl) else (some false))) = some r := by rw [if_pos rfl] at H; exact H
       clear H
       have H := H1
       clear H1
       replace H := Option.bind_eq_some_iff.mp H
       obtain ⟨JC, A170, H⟩ := H
       replace H : (if JC = true then (escritoireref06_Right.l0 k1 (wrap64 (1 + 1)) Jc Je Jd Jk Jj Ji Jh Jg Jf Jl) else (some false)) = some r := H
       have A17 := ze.mk A170
       clear A170
       by_cases c18 : JC = true
       ·subst c18
        have H1 : (escritoireref06_Right.l0 k1 (wrap64 (1 + 1)) Jc Je Jd Jk Jj Ji Jh Jg Jf Jl) = some r := by rw [if_pos rfl] at H; exact H
        clear H
        have H := H1
        clear H1
        have H' := ze.mk H
        clear H
        have Jdz : wr.cell? ⟨Jb, 0, none⟩ = some (.int .i64 Jc) := (zb Ja.o 0).trans rfl
        have Jdy : wr.cell? ⟨Jb, 1, none⟩ = some (.int .i64 Je) := (zb Ja.o 1).trans rfl
        have Jdx : wr.cell? ⟨Jb, 2, none⟩ = some (.int .i64 Jd) := (zb Ja.o 2).trans rfl
        have Jdw : wr.cell? ⟨Jb, 3, none⟩ = some (.int .u64 Jk) := (zb Ja.o 3).trans rfl
        have Jdv : wr.cell? ⟨Jb, 4, none⟩ = some (.int .i64 Jj) := (zb Ja.o 4).trans rfl
        have Jdu : wr.cell? ⟨Jb, 5, none⟩ = some (.int .i64 Ji) := (zb Ja.o 5).trans rfl
        have Jdt : wr.cell? ⟨Jb, 6, none⟩ = some (.int .i64 Jh) := (zb Ja.o 6).trans rfl
        have Jds : wr.cell? ⟨Jb, 7, none⟩ = some (.int .i64 Jg) := (zb Ja.o 7).trans rfl
        have Jdr : wr.cell? ⟨Jb, 8, none⟩ = some (.int .i64 Jf) := (zb Ja.o 8).trans rfl
        have Jdq : wr.cell? ⟨Jb, 9, none⟩ = some (.int .i64 Jl) := (zb Ja.o 9).trans rfl
        have JaP := za Ja.o 0
        have JaO := za Ja.o 1
        have JaN := za Ja.o 2
        have JaM := za Ja.o 3
        have JaL := za Ja.o 4
        have JaK := za Ja.o 5
        have JaJ := za Ja.o 6
        have JaI := za Ja.o 7
        have JaH := za Ja.o 8
        have JaG := za Ja.o 9
        go_wp2_with (first | ((with_reducible refine zN (f := 92) rfl ?_); refine yh (some 20) rfl rfl Tryz.func92 (by kernel_rfl) rfl #[.int .i64 Ji] rfl (by (try simp only [List.map_toArray, List.map_cons, List.map_nil]); first | done | rfl | (simp only [List.length_drop, List.length_take]; rfl)) ?_; (with_reducible refine (escritoireref06_block.calls Ji true _ A17.o).mono ?_); rintro e w' ⟨rfl, ⟨nd, rfl⟩⟩; refine ⟨_, rfl, ?_⟩))
        go_roundg k1
        case measure => have := HK1.o; omega
        case rel => exact ⟨(wrap64 (1 + 1)), (by first | rfl | (simp; done) | (simp [*]; done) | kernel_rfl), H', ⟨by have := HK1.o; omega⟩, ⟨by (with_reducible repeat (first | refine zg ?_ _ | refine zi ?_ | refine zh ?_ _)); exact Ja.o⟩, ⟨by repeat (first | (with_reducible first | exact HB.o | apply zl | apply zf | apply zk | refine zm ?_ Jn.o) | exact HB.o)⟩⟩
       ·replace c18 := Bool.eq_false_iff.mpr c18
        subst c18
        have H1 : (some false) = some r := by rw [if_neg (show ¬ (false = true) by decide)] at H; exact H
        clear H
        have H := H1
        clear H1
        obtain rfl := Option.some.inj H
        have Jdp : wr.cell? ⟨Jb, 0, none⟩ = some (.int .i64 Jc) := (zb Ja.o 0).trans rfl
        have Jdo : wr.cell? ⟨Jb, 1, none⟩ = some (.int .i64 Je) := (zb Ja.o 1).trans rfl
        have Jdn : wr.cell? ⟨Jb, 2, none⟩ = some (.int .i64 Jd) := (zb Ja.o 2).trans rfl
        have Jdm : wr.cell? ⟨Jb, 3, none⟩ = some (.int .u64 Jk) := (zb Ja.o 3).trans rfl
        have Jdl : wr.cell? ⟨Jb, 4, none⟩ = some (.int .i64 Jj) := (zb Ja.o 4).trans rfl
        have Jdk : wr.cell? ⟨Jb, 5, none⟩ = some (.int .i64 Ji) := (zb Ja.o 5).trans rfl
        have Jdj : wr.cell? ⟨Jb, 6, none⟩ = some (.int .i64 Jh) := (zb Ja.o 6).trans rfl
        have Jdi : wr.cell? ⟨Jb, 7, none⟩ = some (.int .i64 Jg) := (zb Ja.o 7).trans rfl
        have Jdh : wr.cell? ⟨Jb, 8, none⟩ = some (.int .i64 Jf) := (zb Ja.o 8).trans rfl
        have Jdg : wr.cell? ⟨Jb, 9, none⟩ = some (.int .i64 Jl) := (zb Ja.o 9).trans rfl
        have JaF := za Ja.o 0
        have JaE := za Ja.o 1
        have JaD := za Ja.o 2
        have JaC := za Ja.o 3
        have JaB := za Ja.o 4
        have JaA := za Ja.o 5
        have Jaz := za Ja.o 6
        have Jay := za Ja.o 7
        have Jax := za Ja.o 8
        have Jaw := za Ja.o 9
        go_wp2_with (first | ((with_reducible refine zN (f := 92) rfl ?_); refine yh (some 20) rfl rfl Tryz.func92 (by kernel_rfl) rfl #[.int .i64 Ji] rfl (by (try simp only [List.map_toArray, List.map_cons, List.map_nil]); first | done | rfl | (simp only [List.length_drop, List.length_take]; rfl)) ?_; (with_reducible refine (escritoireref06_block.calls Ji false _ A17.o).mono ?_); rintro e w' ⟨rfl, ⟨nd, rfl⟩⟩; refine ⟨_, rfl, ?_⟩))
        go_ret
        exact ⟨by first | rfl | (simp [zy, zx] <;> rfl) | (simp [*, zy, zx] <;> rfl), by repeat (first | (with_reducible first | exact HB.o | apply zl | apply zf | apply zk | refine zm ?_ Jn.o) | exact HB.o)⟩
      ·rw [if_neg c16] at H
       by_cases c21 : Jz = 2
       ·subst c21
        have H1 : ((escritoireref06_block.f Jh).bind fun t236 => (if t236 = true then (escritoireref06_Right.l0 k1 (wrap64 (2 + 1)) Jc Je Jd Jk Jj Ji Jh Jg Jf Jl) else (some false))) = some r := by rw [if_pos rfl] at H; exact H
        clear H
        have H := H1
        clear H1
        replace H := Option.bind_eq_some_iff.mp H
        obtain ⟨t236, A220, H⟩ := H
        replace H : (if t236 = true then (escritoireref06_Right.l0 k1 (wrap64 (2 + 1)) Jc Je Jd Jk Jj Ji Jh Jg Jf Jl) else (some false)) = some r := H
        have A22 := ze.mk A220
        clear A220
        by_cases c23 : t236 = true
        ·subst c23
         have H1 : (escritoireref06_Right.l0 k1 (wrap64 (2 + 1)) Jc Je Jd Jk Jj Ji Jh Jg Jf Jl) = some r := by rw [if_pos rfl] at H; exact H
         clear H
         have H := H1
         clear H1
         have H' := ze.mk H
         clear H
         have Jdf : wr.cell? ⟨Jb, 0, none⟩ = some (.int .i64 Jc) := (zb Ja.o 0).trans rfl
         have Jde : wr.cell? ⟨Jb, 1, none⟩ = some (.int .i64 Je) := (zb Ja.o 1).trans rfl
         have Jdd : wr.cell? ⟨Jb, 2, none⟩ = some (.int .i64 Jd) := (zb Ja.o 2).trans rfl
         have Jdc : wr.cell? ⟨Jb, 3, none⟩ = some (.int .u64 Jk) := (zb Ja.o 3).trans rfl
         have Jdb : wr.cell? ⟨Jb, 4, none⟩ = some (.int .i64 Jj) := (zb Ja.o 4).trans rfl
         have Jda : wr.cell? ⟨Jb, 5, none⟩ = some (.int .i64 Ji) := (zb Ja.o 5).trans rfl
         have Jc9 : wr.cell? ⟨Jb, 6, none⟩ = some (.int .i64 Jh) := (zb Ja.o 6).trans rfl
         have Jc8 : wr.cell? ⟨Jb, 7, none⟩ = some (.int .i64 Jg) := (zb Ja.o 7).trans rfl
         have Jc7 : wr.cell? ⟨Jb, 8, none⟩ = some (.int .i64 Jf) := (zb Ja.o 8).trans rfl
         have Jc6 : wr.cell? ⟨Jb, 9, none⟩ = some (.int .i64 Jl) := (zb Ja.o 9).trans rfl
         have Jav := za Ja.o 0
         have Jau := za Ja.o 1
         have Jat := za Ja.o 2
         have Jas := za Ja.o 3
         have Jar := za Ja.o 4
         have Jaq := za Ja.o 5
         have Jap := za Ja.o 6
         have Jao := za Ja.o 7
         have Jan := za Ja.o 8
         have Jam := za Ja.o 9
         go_wp2_with (first | ((with_reducible refine zN (f := 92) rfl ?_); refine yh (some 20) rfl rfl Tryz.func92 (by kernel_rfl) rfl #[.int .i64 Jh] rfl (by (try simp only [List.map_toArray, List.map_cons, List.map_nil]); first | done | rfl | (simp only [List.length_drop, List.length_take]; rfl)) ?_; (with_reducible refine (escritoireref06_block.calls Jh true _ A22.o).mono ?_); rintro e w' ⟨rfl, ⟨nd, rfl⟩⟩; refine ⟨_, rfl, ?_⟩))
         go_roundg k1
         case measure => have := HK1.o; omega
         case rel => exact ⟨(wrap64 (2 + 1)), (by first | rfl | (simp; done) | (simp [*]; done) | kernel_rfl), H', ⟨by have := HK1.o; omega⟩, ⟨by (with_reducible repeat (first | refine zg ?_ _ | refine zi ?_ | refine zh ?_ _)); exact Ja.o⟩, ⟨by repeat (first | (with_reducible first | exact HB.o | apply zl | apply zf | apply zk | refine zm ?_ Jn.o) | exact HB.o)⟩⟩
        ·replace c23 := Bool.eq_false_iff.mpr c23
         subst c23
         have H1 : (some false) = some r := by rw [if_neg (show ¬ (false = true) by decide)] at H; exact H
         clear H
         have H := H1
         clear H1
         obtain rfl := Option.some.inj H
         have Jc5 : wr.cell? ⟨Jb, 0, none⟩ = some (.int .i64 Jc) := (zb Ja.o 0).trans rfl
         have Jc4 : wr.cell? ⟨Jb, 1, none⟩ = some (.int .i64 Je) := (zb Ja.o 1).trans rfl
         have Jc3 : wr.cell? ⟨Jb, 2, none⟩ = some (.int .i64 Jd) := (zb Ja.o 2).trans rfl
         have Jc2 : wr.cell? ⟨Jb, 3, none⟩ = some (.int .u64 Jk) := (zb Ja.o 3).trans rfl
         have Jc1 : wr.cell? ⟨Jb, 4, none⟩ = some (.int .i64 Jj) := (zb Ja.o 4).trans rfl
         have Jc0 : wr.cell? ⟨Jb, 5, none⟩ = some (.int .i64 Ji) := (zb Ja.o 5).trans rfl
         have JcZ : wr.cell? ⟨Jb, 6, none⟩ = some (.int .i64 Jh) := (zb Ja.o 6).trans rfl
         have JcY : wr.cell? ⟨Jb, 7, none⟩ = some (.int .i64 Jg) := (zb Ja.o 7).trans rfl
         have JcX : wr.cell? ⟨Jb, 8, none⟩ = some (.int .i64 Jf) := (zb Ja.o 8).trans rfl
         have JcW : wr.cell? ⟨Jb, 9, none⟩ = some (.int .i64 Jl) := (zb Ja.o 9).trans rfl
         have Jal := za Ja.o 0
         have Jak := za Ja.o 1
         have Jaj := za Ja.o 2
         have Jai := za Ja.o 3
         have Jah := za Ja.o 4
         have Jag := za Ja.o 5
         have Jaf := za Ja.o 6
         have Jae := za Ja.o 7
         have Jad := za Ja.o 8
         have Jac := za Ja.o 9
         go_wp2_with (first | ((with_reducible refine zN (f := 92) rfl ?_); refine yh (some 20) rfl rfl Tryz.func92 (by kernel_rfl) rfl #[.int .i64 Jh] rfl (by (try simp only [List.map_toArray, List.map_cons, List.map_nil]); first | done | rfl | (simp only [List.length_drop, List.length_take]; rfl)) ?_; (with_reducible refine (escritoireref06_block.calls Jh false _ A22.o).mono ?_); rintro e w' ⟨rfl, ⟨nd, rfl⟩⟩; refine ⟨_, rfl, ?_⟩))
         go_ret
         exact ⟨by first | rfl | (simp [zy, zx] <;> rfl) | (simp [*, zy, zx] <;> rfl), by repeat (first | (with_reducible first | exact HB.o | apply zl | apply zf | apply zk | refine zm ?_ Jn.o) | exact HB.o)⟩
       ·rw [if_neg c21] at H
        by_cases c26 : Jz = 3
        ·subst c26
         have H1 : ((escritoireref06_block.f Jg).bind fun JB => (if JB = true then (escritoireref06_Right.l0 k1 (wrap64 (3 + 1)) Jc Je Jd Jk Jj Ji Jh Jg Jf Jl) else (some false))) = some r := by rw [if_pos rfl] at H; exact H
         clear H
         have H := H1
         clear H1
         replace H := Option.bind_eq_some_iff.mp H
         obtain ⟨JB, A270, H⟩ := H
         replace H : (if JB = true then (escritoireref06_Right.l0 k1 (wrap64 (3 + 1)) Jc Je Jd Jk Jj Ji Jh Jg Jf Jl) else (some false)) = some r := H
         have A27 := ze.mk A270
         clear A270
         by_cases c28 : JB = true
         ·subst c28
          have H1 : (escritoireref06_Right.l0 k1 (wrap64 (3 + 1)) Jc Je Jd Jk Jj Ji Jh Jg Jf Jl) = some r := by rw [if_pos rfl] at H; exact H
          clear H
          have H := H1
          clear H1
          have H' := ze.mk H
          clear H
          have JcV : wr.cell? ⟨Jb, 0, none⟩ = some (.int .i64 Jc) := (zb Ja.o 0).trans rfl
          have JcU : wr.cell? ⟨Jb, 1, none⟩ = some (.int .i64 Je) := (zb Ja.o 1).trans rfl
          have JcT : wr.cell? ⟨Jb, 2, none⟩ = some (.int .i64 Jd) := (zb Ja.o 2).trans rfl
          have JcS : wr.cell? ⟨Jb, 3, none⟩ = some (.int .u64 Jk) := (zb Ja.o 3).trans rfl
          have JcR : wr.cell? ⟨Jb, 4, none⟩ = some (.int .i64 Jj) := (zb Ja.o 4).trans rfl
          have JcQ : wr.cell? ⟨Jb, 5, none⟩ = some (.int .i64 Ji) := (zb Ja.o 5).trans rfl
          have JcP : wr.cell? ⟨Jb, 6, none⟩ = some (.int .i64 Jh) := (zb Ja.o 6).trans rfl
          have JcO : wr.cell? ⟨Jb, 7, none⟩ = some (.int .i64 Jg) := (zb Ja.o 7).trans rfl
          have JcN : wr.cell? ⟨Jb, 8, none⟩ = some (.int .i64 Jf) := (zb Ja.o 8).trans rfl
          have JcM : wr.cell? ⟨Jb, 9, none⟩ = some (.int .i64 Jl) := (zb Ja.o 9).trans rfl
          have Jab := za Ja.o 0
          have Jaa := za Ja.o 1
          have BZ := za Ja.o 2
          have BX := za Ja.o 3
          have BV := za Ja.o 4
          have BU := za Ja.o 5
          have BS := za Ja.o 6
          have BR := za Ja.o 7
          have BQ := za Ja.o 8
          have BP := za Ja.o 9
          go_wp2_with (first | ((with_reducible refine zN (f := 92) rfl ?_); refine yh (some 20) rfl rfl Tryz.func92 (by kernel_rfl) rfl #[.int .i64 Jg] rfl (by (try simp only [List.map_toArray, List.map_cons, List.map_nil]); first | done | rfl | (simp only [List.length_drop, List.length_take]; rfl)) ?_; (with_reducible refine (escritoireref06_block.calls Jg true _ A27.o).mono ?_); rintro e w' ⟨rfl, ⟨nd, rfl⟩⟩; refine ⟨_, rfl, ?_⟩))
          go_roundg k1
          case measure => have := HK1.o; omega
          case rel => exact ⟨(wrap64 (3 + 1)), (by first | rfl | (simp; done) | (simp [*]; done) | kernel_rfl), H', ⟨by have := HK1.o; omega⟩, ⟨by (with_reducible repeat (first | refine zg ?_ _ | refine zi ?_ | refine zh ?_ _)); exact Ja.o⟩, ⟨by repeat (first | (with_reducible first | exact HB.o | apply zl | apply zf | apply zk | refine zm ?_ Jn.o) | exact HB.o)⟩⟩
         ·replace c28 := Bool.eq_false_iff.mpr c28
          subst c28
          have H1 : (some false) = some r := by rw [if_neg (show ¬ (false = true) by decide)] at H; exact H
          clear H
          have H := H1
          clear H1
          obtain rfl := Option.some.inj H
          have JcL : wr.cell? ⟨Jb, 0, none⟩ = some (.int .i64 Jc) := (zb Ja.o 0).trans rfl
          have JcK : wr.cell? ⟨Jb, 1, none⟩ = some (.int .i64 Je) := (zb Ja.o 1).trans rfl
          have JcJ : wr.cell? ⟨Jb, 2, none⟩ = some (.int .i64 Jd) := (zb Ja.o 2).trans rfl
          have JcI : wr.cell? ⟨Jb, 3, none⟩ = some (.int .u64 Jk) := (zb Ja.o 3).trans rfl
          have JcH : wr.cell? ⟨Jb, 4, none⟩ = some (.int .i64 Jj) := (zb Ja.o 4).trans rfl
          have JcG : wr.cell? ⟨Jb, 5, none⟩ = some (.int .i64 Ji) := (zb Ja.o 5).trans rfl
          have JcF : wr.cell? ⟨Jb, 6, none⟩ = some (.int .i64 Jh) := (zb Ja.o 6).trans rfl
          have JcE : wr.cell? ⟨Jb, 7, none⟩ = some (.int .i64 Jg) := (zb Ja.o 7).trans rfl
          have JcD : wr.cell? ⟨Jb, 8, none⟩ = some (.int .i64 Jf) := (zb Ja.o 8).trans rfl
          have JcC : wr.cell? ⟨Jb, 9, none⟩ = some (.int .i64 Jl) := (zb Ja.o 9).trans rfl
          have BO := za Ja.o 0
          have BM := za Ja.o 1
          have BL := za Ja.o 2
          have BJ := za Ja.o 3
          have BI := za Ja.o 4
          have BH := za Ja.o 5
          have BG := za Ja.o 6
          have BF := za Ja.o 7
          have BD := za Ja.o 8
          have BC := za Ja.o 9
          go_wp2_with (first | ((with_reducible refine zN (f := 92) rfl ?_); refine yh (some 20) rfl rfl Tryz.func92 (by kernel_rfl) rfl #[.int .i64 Jg] rfl (by (try simp only [List.map_toArray, List.map_cons, List.map_nil]); first | done | rfl | (simp only [List.length_drop, List.length_take]; rfl)) ?_; (with_reducible refine (escritoireref06_block.calls Jg false _ A27.o).mono ?_); rintro e w' ⟨rfl, ⟨nd, rfl⟩⟩; refine ⟨_, rfl, ?_⟩))
          go_ret
          exact ⟨by first | rfl | (simp [zy, zx] <;> rfl) | (simp [*, zy, zx] <;> rfl), by repeat (first | (with_reducible first | exact HB.o | apply zl | apply zf | apply zk | refine zm ?_ Jn.o) | exact HB.o)⟩
        ·rw [if_neg c26] at H
         by_cases c31 : Jz = 4
         ·subst c31
          have H1 : ((escritoireref06_block.f Jf).bind fun JA => (if JA = true then (escritoireref06_Right.l0 k1 (wrap64 (4 + 1)) Jc Je Jd Jk Jj Ji Jh Jg Jf Jl) else (some false))) = some r := by rw [if_pos rfl] at H; exact H
          clear H
          have H := H1
          clear H1
          replace H := Option.bind_eq_some_iff.mp H
          obtain ⟨JA, A320, H⟩ := H
          replace H : (if JA = true then (escritoireref06_Right.l0 k1 (wrap64 (4 + 1)) Jc Je Jd Jk Jj Ji Jh Jg Jf Jl) else (some false)) = some r := H
          have A32 := ze.mk A320
          clear A320
          by_cases c33 : JA = true
          ·subst c33
           have H1 : (escritoireref06_Right.l0 k1 (wrap64 (4 + 1)) Jc Je Jd Jk Jj Ji Jh Jg Jf Jl) = some r := by rw [if_pos rfl] at H; exact H
           clear H
           have H := H1
           clear H1
           have H' := ze.mk H
           clear H
           have JcB : wr.cell? ⟨Jb, 0, none⟩ = some (.int .i64 Jc) := (zb Ja.o 0).trans rfl
           have JcA : wr.cell? ⟨Jb, 1, none⟩ = some (.int .i64 Je) := (zb Ja.o 1).trans rfl
           have Jcz : wr.cell? ⟨Jb, 2, none⟩ = some (.int .i64 Jd) := (zb Ja.o 2).trans rfl
           have Jcy : wr.cell? ⟨Jb, 3, none⟩ = some (.int .u64 Jk) := (zb Ja.o 3).trans rfl
           have Jcx : wr.cell? ⟨Jb, 4, none⟩ = some (.int .i64 Jj) := (zb Ja.o 4).trans rfl
           have Jcw : wr.cell? ⟨Jb, 5, none⟩ = some (.int .i64 Ji) := (zb Ja.o 5).trans rfl
           have Jcv : wr.cell? ⟨Jb, 6, none⟩ = some (.int .i64 Jh) := (zb Ja.o 6).trans rfl
           have Jcu : wr.cell? ⟨Jb, 7, none⟩ = some (.int .i64 Jg) := (zb Ja.o 7).trans rfl
           have Jct : wr.cell? ⟨Jb, 8, none⟩ = some (.int .i64 Jf) := (zb Ja.o 8).trans rfl
           have Jcs : wr.cell? ⟨Jb, 9, none⟩ = some (.int .i64 Jl) := (zb Ja.o 9).trans rfl
           have BA := za Ja.o 0
           have Bz := za Ja.o 1
           have Bw := za Ja.o 2
           have Bv := za Ja.o 3
           have Bu := za Ja.o 4
           have Bt := za Ja.o 5
           have Br := za Ja.o 6
           have Bq := za Ja.o 7
           have Bp := za Ja.o 8
           have Bo := za Ja.o 9
           go_wp2_with (first | ((with_reducible refine zN (f := 92) rfl ?_); refine yh (some 20) rfl rfl Tryz.func92 (by kernel_rfl) rfl #[.int .i64 Jf] rfl (by (try simp only [List.map_toArray, List.map_cons, List.map_nil]); first | done | rfl | (simp only [List.length_drop, List.length_take]; rfl)) ?_; (with_reducible refine (escritoireref06_block.calls Jf true _ A32.o).mono ?_); rintro e w' ⟨rfl, ⟨nd, rfl⟩⟩; refine ⟨_, rfl, ?_⟩))
           go_roundg k1
           case measure => have := HK1.o; omega
           case rel => exact ⟨(wrap64 (4 + 1)), (by first | rfl | (simp; done) | (simp [*]; done) | kernel_rfl), H', ⟨by have := HK1.o; omega⟩, ⟨by (with_reducible repeat (first | refine zg ?_ _ | refine zi ?_ | refine zh ?_ _)); exact Ja.o⟩, ⟨by repeat (first | (with_reducible first | exact HB.o | apply zl | apply zf | apply zk | refine zm ?_ Jn.o) | exact HB.o)⟩⟩
          ·replace c33 := Bool.eq_false_iff.mpr c33
           subst c33
           have H1 : (some false) = some r := by rw [if_neg (show ¬ (false = true) by decide)] at H; exact H
           clear H
           have H := H1
           clear H1
           obtain rfl := Option.some.inj H
           have Jcr : wr.cell? ⟨Jb, 0, none⟩ = some (.int .i64 Jc) := (zb Ja.o 0).trans rfl
           have Jcq : wr.cell? ⟨Jb, 1, none⟩ = some (.int .i64 Je) := (zb Ja.o 1).trans rfl
           have Jcp : wr.cell? ⟨Jb, 2, none⟩ = some (.int .i64 Jd) := (zb Ja.o 2).trans rfl
           have Jco : wr.cell? ⟨Jb, 3, none⟩ = some (.int .u64 Jk) := (zb Ja.o 3).trans rfl
           have Jcn : wr.cell? ⟨Jb, 4, none⟩ = some (.int .i64 Jj) := (zb Ja.o 4).trans rfl
           have Jcm : wr.cell? ⟨Jb, 5, none⟩ = some (.int .i64 Ji) := (zb Ja.o 5).trans rfl
           have Jcl : wr.cell? ⟨Jb, 6, none⟩ = some (.int .i64 Jh) := (zb Ja.o 6).trans rfl
           have Jck : wr.cell? ⟨Jb, 7, none⟩ = some (.int .i64 Jg) := (zb Ja.o 7).trans rfl
           have Jcj : wr.cell? ⟨Jb, 8, none⟩ = some (.int .i64 Jf) := (zb Ja.o 8).trans rfl
           have Jci : wr.cell? ⟨Jb, 9, none⟩ = some (.int .i64 Jl) := (zb Ja.o 9).trans rfl
           have Bn := za Ja.o 0
           have Bl := za Ja.o 1
           have Bj := za Ja.o 2
           have Bi := za Ja.o 3
           have Bh := za Ja.o 4
           have Bg := za Ja.o 5
           have Bf := za Ja.o 6
           have Be := za Ja.o 7
           have Bd := za Ja.o 8
           have Bc := za Ja.o 9
           go_wp2_with (first | ((with_reducible refine zN (f := 92) rfl ?_); refine yh (some 20) rfl rfl Tryz.func92 (by kernel_rfl) rfl #[.int .i64 Jf] rfl (by (try simp only [List.map_toArray, List.map_cons, List.map_nil]); first | done | rfl | (simp only [List.length_drop, List.length_take]; rfl)) ?_; (with_reducible refine (escritoireref06_block.calls Jf false _ A32.o).mono ?_); rintro e w' ⟨rfl, ⟨nd, rfl⟩⟩; refine ⟨_, rfl, ?_⟩))
           go_ret
           exact ⟨by first | rfl | (simp [zy, zx] <;> rfl) | (simp [*, zy, zx] <;> rfl), by repeat (first | (with_reducible first | exact HB.o | apply zl | apply zf | apply zk | refine zm ?_ Jn.o) | exact HB.o)⟩
         ·rw [if_neg c31] at H
          exact absurd H (by simp)
    ·rw [if_neg c10] at H
     have Jd0 : decide (Jz < 5) = false := decide_eq_false c10
     clear c10
     by_cases c36 : Jc ≥ 1
     ·rw [if_pos c36] at H
      have JdZ : decide (1 ≤ Jc) = true := decide_eq_true c36
      clear c36
      by_cases c37 : Jc ≤ 3
      ·rw [if_pos c37] at H
       have JdY : decide (Jc ≤ 3) = true := decide_eq_true c37
       clear c37
       by_cases c38 : Je ≥ 0
       ·rw [if_pos c38] at H
        have JdX : decide (0 ≤ Je) = true := decide_eq_true c38
        clear c38
        by_cases c39 : Je ≤ 255
        ·rw [if_pos c39] at H
         have JdW : decide (Je ≤ 255) = true := decide_eq_true c39
         clear c39
         by_cases c40 : Jd ≥ 0
         ·rw [if_pos c40] at H
          have JdV : decide (0 ≤ Jd) = true := decide_eq_true c40
          clear c40
          by_cases c41 : Jd ≤ 2688
          ·rw [if_pos c41] at H
           have JdU : decide (Jd ≤ 2688) = true := decide_eq_true c41
           clear c41
           replace H := Option.bind_eq_some_iff.mp H
           obtain ⟨Gm, A420, H⟩ := H
           replace H : (some Gm) = some r := H
           have A42 := ze.mk A420
           clear A420
           obtain rfl := Option.some.inj H
           have Jch : wr.cell? ⟨Jb, 0, none⟩ = some (.int .i64 Jc) := (zb Ja.o 0).trans rfl
           have Jcg : wr.cell? ⟨Jb, 1, none⟩ = some (.int .i64 Je) := (zb Ja.o 1).trans rfl
           have Jcf : wr.cell? ⟨Jb, 2, none⟩ = some (.int .i64 Jd) := (zb Ja.o 2).trans rfl
           have Jce : wr.cell? ⟨Jb, 3, none⟩ = some (.int .u64 Jk) := (zb Ja.o 3).trans rfl
           have Jcd : wr.cell? ⟨Jb, 4, none⟩ = some (.int .i64 Jj) := (zb Ja.o 4).trans rfl
           have Jcc : wr.cell? ⟨Jb, 5, none⟩ = some (.int .i64 Ji) := (zb Ja.o 5).trans rfl
           have Jcb : wr.cell? ⟨Jb, 6, none⟩ = some (.int .i64 Jh) := (zb Ja.o 6).trans rfl
           have Jca : wr.cell? ⟨Jb, 7, none⟩ = some (.int .i64 Jg) := (zb Ja.o 7).trans rfl
           have Jb9 : wr.cell? ⟨Jb, 8, none⟩ = some (.int .i64 Jf) := (zb Ja.o 8).trans rfl
           have Jb8 : wr.cell? ⟨Jb, 9, none⟩ = some (.int .i64 Jl) := (zb Ja.o 9).trans rfl
           have D7 := za Ja.o 0
           have D6 := za Ja.o 1
           have D5 := za Ja.o 2
           have DZ := za Ja.o 3
           have DY := za Ja.o 4
           have DW := za Ja.o 5
           have DV := za Ja.o 6
           have DU := za Ja.o 7
           have DT := za Ja.o 8
           have DR := za Ja.o 9
           go_wp2_with (first | (go_at_call 92; (with_reducible refine (escritoireref06_block.calls Jl Gm _ A42.o).mono ?_); rintro e w' ⟨rfl, ⟨nd, rfl⟩⟩))
           go_ret
           exact ⟨by first | rfl | (simp [zy, zx] <;> rfl) | (simp [*, zy, zx] <;> rfl), by repeat (first | (with_reducible first | exact HB.o | apply zl | apply zf | apply zk | refine zm ?_ Jn.o) | exact HB.o)⟩
          ·rw [if_neg c41] at H
           have JdU : decide (Jd ≤ 2688) = false := decide_eq_false c41
           clear c41
           obtain rfl := Option.some.inj H
           have Jb7 : wr.cell? ⟨Jb, 0, none⟩ = some (.int .i64 Jc) := (zb Ja.o 0).trans rfl
           have Jb6 : wr.cell? ⟨Jb, 1, none⟩ = some (.int .i64 Je) := (zb Ja.o 1).trans rfl
           have Jb5 : wr.cell? ⟨Jb, 2, none⟩ = some (.int .i64 Jd) := (zb Ja.o 2).trans rfl
           have Jb4 : wr.cell? ⟨Jb, 3, none⟩ = some (.int .u64 Jk) := (zb Ja.o 3).trans rfl
           have Jb3 : wr.cell? ⟨Jb, 4, none⟩ = some (.int .i64 Jj) := (zb Ja.o 4).trans rfl
           have Jb2 : wr.cell? ⟨Jb, 5, none⟩ = some (.int .i64 Ji) := (zb Ja.o 5).trans rfl
           have Jb1 : wr.cell? ⟨Jb, 6, none⟩ = some (.int .i64 Jh) := (zb Ja.o 6).trans rfl
           have Jb0 : wr.cell? ⟨Jb, 7, none⟩ = some (.int .i64 Jg) := (zb Ja.o 7).trans rfl
           have JbZ : wr.cell? ⟨Jb, 8, none⟩ = some (.int .i64 Jf) := (zb Ja.o 8).trans rfl
           have JbY : wr.cell? ⟨Jb, 9, none⟩ = some (.int .i64 Jl) := (zb Ja.o 9).trans rfl
           have DN := za Ja.o 0
           have DL := za Ja.o 1
           have DK := za Ja.o 2
           have DJ := za Ja.o 3
           have DI := za Ja.o 4
           have DF := za Ja.o 5
           have DD := za Ja.o 6
           have DC := za Ja.o 7
           have Dz := za Ja.o 8
           have Dy := za Ja.o 9
           go_wp2
           go_ret
           exact ⟨by first | rfl | (simp [zy, zx] <;> rfl) | (simp [*, zy, zx] <;> rfl), by repeat (first | (with_reducible first | exact HB.o | apply zl | apply zf | apply zk | refine zm ?_ Jn.o) | exact HB.o)⟩
         ·rw [if_neg c40] at H
          have JdV : decide (0 ≤ Jd) = false := decide_eq_false c40
          clear c40
          obtain rfl := Option.some.inj H
          have JbX : wr.cell? ⟨Jb, 0, none⟩ = some (.int .i64 Jc) := (zb Ja.o 0).trans rfl
          have JbW : wr.cell? ⟨Jb, 1, none⟩ = some (.int .i64 Je) := (zb Ja.o 1).trans rfl
          have JbV : wr.cell? ⟨Jb, 2, none⟩ = some (.int .i64 Jd) := (zb Ja.o 2).trans rfl
          have JbU : wr.cell? ⟨Jb, 3, none⟩ = some (.int .u64 Jk) := (zb Ja.o 3).trans rfl
          have JbT : wr.cell? ⟨Jb, 4, none⟩ = some (.int .i64 Jj) := (zb Ja.o 4).trans rfl
          have JbS : wr.cell? ⟨Jb, 5, none⟩ = some (.int .i64 Ji) := (zb Ja.o 5).trans rfl
          have JbR : wr.cell? ⟨Jb, 6, none⟩ = some (.int .i64 Jh) := (zb Ja.o 6).trans rfl
          have JbQ : wr.cell? ⟨Jb, 7, none⟩ = some (.int .i64 Jg) := (zb Ja.o 7).trans rfl
          have JbP : wr.cell? ⟨Jb, 8, none⟩ = some (.int .i64 Jf) := (zb Ja.o 8).trans rfl
          have JbO : wr.cell? ⟨Jb, 9, none⟩ = some (.int .i64 Jl) := (zb Ja.o 9).trans rfl
          have Dx := za Ja.o 0
          have Dw := za Ja.o 1
          have Dv := za Ja.o 2
          have Du := za Ja.o 3
          have Dt := za Ja.o 4
          have Dr := za Ja.o 5
          have Dq := za Ja.o 6
          have Dp := za Ja.o 7
          have Dn := za Ja.o 8
          have Dm := za Ja.o 9
          go_wp2
          go_ret
          exact ⟨by first | rfl | (simp [zy, zx] <;> rfl) | (simp [*, zy, zx] <;> rfl), by repeat (first | (with_reducible first | exact HB.o | apply zl | apply zf | apply zk | refine zm ?_ Jn.o) | exact HB.o)⟩
        ·rw [if_neg c39] at H
         have JdW : decide (Je ≤ 255) = false := decide_eq_false c39
         clear c39
         obtain rfl := Option.some.inj H
         have JbN : wr.cell? ⟨Jb, 0, none⟩ = some (.int .i64 Jc) := (zb Ja.o 0).trans rfl
         have JbM : wr.cell? ⟨Jb, 1, none⟩ = some (.int .i64 Je) := (zb Ja.o 1).trans rfl
         have JbL : wr.cell? ⟨Jb, 2, none⟩ = some (.int .i64 Jd) := (zb Ja.o 2).trans rfl
         have JbK : wr.cell? ⟨Jb, 3, none⟩ = some (.int .u64 Jk) := (zb Ja.o 3).trans rfl
         have JbJ : wr.cell? ⟨Jb, 4, none⟩ = some (.int .i64 Jj) := (zb Ja.o 4).trans rfl
         have JbI : wr.cell? ⟨Jb, 5, none⟩ = some (.int .i64 Ji) := (zb Ja.o 5).trans rfl
         have JbH : wr.cell? ⟨Jb, 6, none⟩ = some (.int .i64 Jh) := (zb Ja.o 6).trans rfl
         have JbG : wr.cell? ⟨Jb, 7, none⟩ = some (.int .i64 Jg) := (zb Ja.o 7).trans rfl
         have JbF : wr.cell? ⟨Jb, 8, none⟩ = some (.int .i64 Jf) := (zb Ja.o 8).trans rfl
         have JbE : wr.cell? ⟨Jb, 9, none⟩ = some (.int .i64 Jl) := (zb Ja.o 9).trans rfl
         have Dl := za Ja.o 0
         have Dk := za Ja.o 1
         have Dj := za Ja.o 2
         have Di := za Ja.o 3
         have Dh := za Ja.o 4
         have Df := za Ja.o 5
         have Dc := za Ja.o 6
         have Db := za Ja.o 7
         have Da := za Ja.o 8
         have G9 := za Ja.o 9
         go_wp2
         go_ret
         exact ⟨by first | rfl | (simp [zy, zx] <;> rfl) | (simp [*, zy, zx] <;> rfl), by repeat (first | (with_reducible first | exact HB.o | apply zl | apply zf | apply zk | refine zm ?_ Jn.o) | exact HB.o)⟩
       ·rw [if_neg c38] at H
        have JdX : decide (0 ≤ Je) = false := decide_eq_false c38
        clear c38
        obtain rfl := Option.some.inj H
        have JbD : wr.cell? ⟨Jb, 0, none⟩ = some (.int .i64 Jc) := (zb Ja.o 0).trans rfl
        have JbC : wr.cell? ⟨Jb, 1, none⟩ = some (.int .i64 Je) := (zb Ja.o 1).trans rfl
        have JbB : wr.cell? ⟨Jb, 2, none⟩ = some (.int .i64 Jd) := (zb Ja.o 2).trans rfl
        have JbA : wr.cell? ⟨Jb, 3, none⟩ = some (.int .u64 Jk) := (zb Ja.o 3).trans rfl
        have Jbz : wr.cell? ⟨Jb, 4, none⟩ = some (.int .i64 Jj) := (zb Ja.o 4).trans rfl
        have Jby : wr.cell? ⟨Jb, 5, none⟩ = some (.int .i64 Ji) := (zb Ja.o 5).trans rfl
        have Jbx : wr.cell? ⟨Jb, 6, none⟩ = some (.int .i64 Jh) := (zb Ja.o 6).trans rfl
        have Jbw : wr.cell? ⟨Jb, 7, none⟩ = some (.int .i64 Jg) := (zb Ja.o 7).trans rfl
        have Jbv : wr.cell? ⟨Jb, 8, none⟩ = some (.int .i64 Jf) := (zb Ja.o 8).trans rfl
        have Jbu : wr.cell? ⟨Jb, 9, none⟩ = some (.int .i64 Jl) := (zb Ja.o 9).trans rfl
        have G8 := za Ja.o 0
        have G7 := za Ja.o 1
        have G5 := za Ja.o 2
        have GZ := za Ja.o 3
        have GY := za Ja.o 4
        have GX := za Ja.o 5
        have GV := za Ja.o 6
        have GU := za Ja.o 7
        have GR := za Ja.o 8
        have GQ := za Ja.o 9
        go_wp2
        go_ret
        exact ⟨by first | rfl | (simp [zy, zx] <;> rfl) | (simp [*, zy, zx] <;> rfl), by repeat (first | (with_reducible first | exact HB.o | apply zl | apply zf | apply zk | refine zm ?_ Jn.o) | exact HB.o)⟩
      ·rw [if_neg c37] at H
       have JdY : decide (Jc ≤ 3) = false := decide_eq_false c37
       clear c37
       obtain rfl := Option.some.inj H
       have Jbt : wr.cell? ⟨Jb, 0, none⟩ = some (.int .i64 Jc) := (zb Ja.o 0).trans rfl
       have Jbs : wr.cell? ⟨Jb, 1, none⟩ = some (.int .i64 Je) := (zb Ja.o 1).trans rfl
       have Jbr : wr.cell? ⟨Jb, 2, none⟩ = some (.int .i64 Jd) := (zb Ja.o 2).trans rfl
       have Jbq : wr.cell? ⟨Jb, 3, none⟩ = some (.int .u64 Jk) := (zb Ja.o 3).trans rfl
       have Jbp : wr.cell? ⟨Jb, 4, none⟩ = some (.int .i64 Jj) := (zb Ja.o 4).trans rfl
       have Jbo : wr.cell? ⟨Jb, 5, none⟩ = some (.int .i64 Ji) := (zb Ja.o 5).trans rfl
       have Jbn : wr.cell? ⟨Jb, 6, none⟩ = some (.int .i64 Jh) := (zb Ja.o 6).trans rfl
       have Jbm : wr.cell? ⟨Jb, 7, none⟩ = some (.int .i64 Jg) := (zb Ja.o 7).trans rfl
       have Jbl : wr.cell? ⟨Jb, 8, none⟩ = some (.int .i64 Jf) := (zb Ja.o 8).trans rfl
       have Jbk : wr.cell? ⟨Jb, 9, none⟩ = some (.int .i64 Jl) := (zb Ja.o 9).trans rfl
       have GM := za Ja.o 0
       have GL := za Ja.o 1
       have GK := za Ja.o 2
       have GJ := za Ja.o 3
       have GI := za Ja.o 4
       have GH := za Ja.o 5
       have GG := za Ja.o 6
       have GD := za Ja.o 7
       have Gz := za Ja.o 8
       have Gy := za Ja.o 9
       go_wp2
       go_ret
       exact ⟨by first | rfl | (simp [zy, zx] <;> rfl) | (simp [*, zy, zx] <;> rfl), by repeat (first | (with_reducible first | exact HB.o | apply zl | apply zf | apply zk | refine zm ?_ Jn.o) | exact HB.o)⟩
     ·rw [if_neg c36] at H
      have JdZ : decide (1 ≤ Jc) = false := decide_eq_false c36
      clear c36
      obtain rfl := Option.some.inj H
      have Jbj : wr.cell? ⟨Jb, 0, none⟩ = some (.int .i64 Jc) := (zb Ja.o 0).trans rfl
      have Jbi : wr.cell? ⟨Jb, 1, none⟩ = some (.int .i64 Je) := (zb Ja.o 1).trans rfl
      have Jbh : wr.cell? ⟨Jb, 2, none⟩ = some (.int .i64 Jd) := (zb Ja.o 2).trans rfl
      have Jbg : wr.cell? ⟨Jb, 3, none⟩ = some (.int .u64 Jk) := (zb Ja.o 3).trans rfl
      have Jbf : wr.cell? ⟨Jb, 4, none⟩ = some (.int .i64 Jj) := (zb Ja.o 4).trans rfl
      have Jbe : wr.cell? ⟨Jb, 5, none⟩ = some (.int .i64 Ji) := (zb Ja.o 5).trans rfl
      have Jbd : wr.cell? ⟨Jb, 6, none⟩ = some (.int .i64 Jh) := (zb Ja.o 6).trans rfl
      have Jbc : wr.cell? ⟨Jb, 7, none⟩ = some (.int .i64 Jg) := (zb Ja.o 7).trans rfl
      have Jbb : wr.cell? ⟨Jb, 8, none⟩ = some (.int .i64 Jf) := (zb Ja.o 8).trans rfl
      have Jba : wr.cell? ⟨Jb, 9, none⟩ = some (.int .i64 Jl) := (zb Ja.o 9).trans rfl
      have Gx := za Ja.o 0
      have Gw := za Ja.o 1
      have Gv := za Ja.o 2
      have Gu := za Ja.o 3
      have Gt := za Ja.o 4
      have Gs := za Ja.o 5
      have Gr := za Ja.o 6
      have Gq := za Ja.o 7
      have Gp := za Ja.o 8
      have Gn := za Ja.o 9
      go_wp2
      go_ret
      exact ⟨by first | rfl | (simp [zy, zx] <;> rfl) | (simp [*, zy, zx] <;> rfl), by repeat (first | (with_reducible first | exact HB.o | apply zl | apply zf | apply zk | refine zm ?_ Jn.o) | exact HB.o)⟩

end Go.Proofs.YtkbhilhefnahpaaGreat.Print
