import Derived.Test.YtkbhilhefnahpaaPrint0
import Derived.Test.YtkbhilhefnahpaaPrint1
import Derived.Test.YtkbhilhefnahpaaPrint7
namespace Go.Proofs.Ytkbhilhefnahpaa.Print
open Go.RowKit Go.Proofs.YtkbhilhefnahpaaW.PrintWords Go.Proofs.YtkbhilhefnahpaaW.PrintLast Go.Proofs.YtkbhilhefnahpaaW.PrintMore
attribute [local go_sem] Zd Zc ZF ZE yV yU Zk Zj   -- for this text's walks alone
set_option linter.unusedVariables false
set_option linter.unusedSimpArgs false

attribute [local go_sem high] eqA45
/-! ### escritoireref06_Right: function 80 -/
def escritoireref06_Right.l0 : Nat → Int → Int → Int → Int → Int → Int → Int → Int → Int → Int → Int → Option (Bool)
 | 0, _, _, _, _, _, _, _, _, _, _, _ => none
 | k + 1, x3, Jq, Jp, Jo, Jy, Jw, Jv, Ju, Jt, Js, Jr => if x3 < 5 then (if x3 = 0 then ((escritoireref06_block.f Jw).bind fun t236 => (if t236 = true then (escritoireref06_Right.l0 k (wrap64 (x3 + 1)) Jq Jp Jo Jy Jw Jv Ju Jt Js Jr) else (some false))) else (if x3 = 1 then ((escritoireref06_block.f Jv).bind fun JD => (if JD = true then (escritoireref06_Right.l0 k (wrap64 (x3 + 1)) Jq Jp Jo Jy Jw Jv Ju Jt Js Jr) else (some false))) else (if x3 = 2 then ((escritoireref06_block.f Ju).bind fun JC => (if JC = true then (escritoireref06_Right.l0 k (wrap64 (x3 + 1)) Jq Jp Jo Jy Jw Jv Ju Jt Js Jr) else (some false))) else (if x3 = 3 then ((escritoireref06_block.f Jt).bind fun JB => (if JB = true then (escritoireref06_Right.l0 k (wrap64 (x3 + 1)) Jq Jp Jo Jy Jw Jv Ju Jt Js Jr) else (some false))) else (if x3 = 4 then ((escritoireref06_block.f Js).bind fun JA => (if JA = true then (escritoireref06_Right.l0 k (wrap64 (x3 + 1)) Jq Jp Jo Jy Jw Jv Ju Jt Js Jr) else (some false))) else (none)))))) else (if Jq ≥ 1 then (if Jq ≤ 3 then (if Jp ≥ 0 then (if Jp ≤ 255 then (if Jo ≥ 0 then (if Jo ≤ 2688 then ((escritoireref06_block.f Jr).bind fun Gp => (some Gp)) else (some false)) else (some false)) else (some false)) else (some false)) else (some false)) else (some false))
def escritoireref06_Right.f (k : Nat) (Jc : Int) (Je : Int) (Jd : Int) (Jk : Int) (Jj : Int) (Ji : Int) (Jh : Int) (Jg : Int) (Jf : Int) (Jl : Int) : Option (Bool) := if Jc = 0 then ((escritoireref06_None.f Jk).bind fun Jm => (some (Jc == Jm.1 && (Je == Jm.2.1 && (Jd == Jm.2.2.1 && (Jk == Jm.2.2.2.1 && ((Jj == Jm.2.2.2.2.1 && (Ji == Jm.2.2.2.2.2.1 && (Jh == Jm.2.2.2.2.2.2.1 && (Jg == Jm.2.2.2.2.2.2.2.1 && (Jf == Jm.2.2.2.2.2.2.2.2.1))))) && (Jl == Jm.2.2.2.2.2.2.2.2.2)))))))) else (escritoireref06_Right.l0 k 0 Jc Je Jd Jk Jj Ji Jh Jg Jf Jl)
set_option maxHeartbeats 8000000 in
set_option maxRecDepth 100000 in
theorem escritoireref06_Right.calls (k : Nat) (Jc : Int) (Je : Int) (Jd : Int) (Jk : Int) (Jj : Int) (Ji : Int) (Jh : Int) (Jg : Int) (Jf : Int) (Jl : Int) (r : Bool) (w : World) (h : escritoireref06_Right.f k Jc Je Jd Jk Jj Ji Jh Jg Jf Jl = some r) :
  Calls Try.prog 80 #[.agg #[.int .i64 Jc, .int .i64 Je, .int .i64 Jd, .int .u64 Jk, .int .i64 Jj, .int .i64 Ji, .int .i64 Jh, .int .i64 Jg, .int .i64 Jf, .int .i64 Jl]] w fun e w' => e = .returned (.bool r) ∧ Below w.heap.size w w' := by
 have hu45 := Try.underlying45
 have HB := ze.mk (Below.refl w.heap.size w)
 have H : (if Jc = 0 then ((escritoireref06_None.f Jk).bind fun Jm => (some (Jc == Jm.1 && (Je == Jm.2.1 && (Jd == Jm.2.2.1 && (Jk == Jm.2.2.2.1 && ((Jj == Jm.2.2.2.2.1 && (Ji == Jm.2.2.2.2.2.1 && (Jh == Jm.2.2.2.2.2.2.1 && (Jg == Jm.2.2.2.2.2.2.2.1 && (Jf == Jm.2.2.2.2.2.2.2.2.1))))) && (Jl == Jm.2.2.2.2.2.2.2.2.2)))))))) else (escritoireref06_Right.l0 k 0 Jc Je Jd Jk Jj Ji Jh Jg Jf Jl)) = some r := h
 clear h
 by_cases c2 : Jc = 0
 ·rw [if_pos c2] at H
  have c2b0 : (Jc == 0) = true := beq_iff_eq.mpr c2
  have c2b1 : (Jc != 0) = false := bne_eq_false_iff_eq.mpr c2
  clear c2
  replace H := Option.bind_eq_some_iff.mp H
  obtain ⟨⟨t226, t227, t228, t229, t230, t231, t232, t233, t234, t235⟩, A30, H⟩ := H
  replace H : (some (Jc == t226 && (Je == t227 && (Jd == t228 && (Jk == t229 && ((Jj == t230 && (Ji == t231 && (Jh == t232 && (Jg == t233 && (Jf == t234))))) && (Jl == t235))))))) = some r := H
  have A3 := ze.mk A30
  clear A30
  obtain rfl := Option.some.inj H
  go_enter Try.func80, Try.ntmps80
  try go_wp2_with (first | ((with_reducible refine zC (N := 1) rfl ?_); refine zD ?hg (N := 1) ?hd (cs := #[.int .i64 Jc, .int .i64 Je, .int .i64 Jd, .int .u64 Jk, .int .i64 Jj, .int .i64 Ji, .int .i64 Jh, .int .i64 Jg, .int .i64 Jf, .int .i64 Jl]) (t := 45) ?hr ?_; (case hd => rfl); (case hg => rfl); (case hr => first | (go_simp; done) | (go_simp; rfl)); intro Jb hg w4 hbox hb; have n0_ := ze.mk (zu (by repeat (first | (with_reducible first | exact HB.o | apply zl | apply zf | apply zk) | exact HB.o)) hb); have n1_ := ze.mk (hbox); have n2_ := ze.mk ((by rw [hg]; exact (zt (by repeat (first | (with_reducible first | exact HB.o | apply zl | apply zf | apply zk) | exact HB.o))) : w.heap.size ≤ Jb)); have n3_ := ze.mk ((by rw [hg]; exact (zt (by repeat (first | (with_reducible first | exact HB.o | apply zl | apply zf | apply zk) | exact HB.o))) : w.heap.size ≤ Jb)); clear HB; have HB := n0_; have Ja := n1_; have JdZ := n2_; have Jn := n3_; clear n0_ n1_ n2_ n3_; clear hb hbox hg; have Gn : w4.cell? ⟨Jb, 0, none⟩ = some (.int .i64 Jc) := (zb Ja.o 0).trans rfl; have Gm : w4.cell? ⟨Jb, 1, none⟩ = some (.int .i64 Je) := (zb Ja.o 1).trans rfl; have Gl : w4.cell? ⟨Jb, 2, none⟩ = some (.int .i64 Jd) := (zb Ja.o 2).trans rfl; have Gj : w4.cell? ⟨Jb, 3, none⟩ = some (.int .u64 Jk) := (zb Ja.o 3).trans rfl; have Gi : w4.cell? ⟨Jb, 4, none⟩ = some (.int .i64 Jj) := (zb Ja.o 4).trans rfl; have Gh : w4.cell? ⟨Jb, 5, none⟩ = some (.int .i64 Ji) := (zb Ja.o 5).trans rfl; have Gg : w4.cell? ⟨Jb, 6, none⟩ = some (.int .i64 Jh) := (zb Ja.o 6).trans rfl; have Gf : w4.cell? ⟨Jb, 7, none⟩ = some (.int .i64 Jg) := (zb Ja.o 7).trans rfl; have Gd : w4.cell? ⟨Jb, 8, none⟩ = some (.int .i64 Jf) := (zb Ja.o 8).trans rfl; have Gc : w4.cell? ⟨Jb, 9, none⟩ = some (.int .i64 Jl) := (zb Ja.o 9).trans rfl; have JZ := za Ja.o 0; have JY := za Ja.o 1; have JX := za Ja.o 2; have JW := za Ja.o 3; have JV := za Ja.o 4; have JU := za Ja.o 5; have JS := za Ja.o 6; have JR := za Ja.o 7; have JQ := za Ja.o 8; have JP := za Ja.o 9))
  have n0_ := ze.mk (zi Ja.o)
  have n1_ := ze.mk (zk HB.o)
  clear Ja
  clear HB
  have Ja := n0_
  have HB := n1_
  clear n0_ n1_
  refine YG (n := 6) (S := fun w' => w'.cell? ⟨Jb, 0, none⟩ = some (.int .i64 Jc) ∧ w'.cell? ⟨Jb, 1, none⟩ = some (.int .i64 Je) ∧ w'.cell? ⟨Jb, 2, none⟩ = some (.int .i64 Jd) ∧ w'.cell? ⟨Jb, 3, none⟩ = some (.int .u64 Jk) ∧ w'.cell? ⟨Jb, 4, none⟩ = some (.int .i64 Jj) ∧ w'.cell? ⟨Jb, 5, none⟩ = some (.int .i64 Ji) ∧ w'.cell? ⟨Jb, 6, none⟩ = some (.int .i64 Jh) ∧ w'.cell? ⟨Jb, 7, none⟩ = some (.int .i64 Jg) ∧ w'.cell? ⟨Jb, 8, none⟩ = some (.int .i64 Jf) ∧ w'.cell? ⟨Jb, 9, none⟩ = some (.int .i64 Jl)) (ds := []) #[false, false, false, false, false, false] (by kernel_rfl) rfl rfl ⟨(zb Ja.o 0).trans rfl, (zb Ja.o 1).trans rfl, (zb Ja.o 2).trans rfl, (zb Ja.o 3).trans rfl, (zb Ja.o 4).trans rfl, (zb Ja.o 5).trans rfl, (zb Ja.o 6).trans rfl, (zb Ja.o 7).trans rfl, (zb Ja.o 8).trans rfl, (zb Ja.o 9).trans rfl⟩ (fun hHeld => ?_)
  generalize w4.drew = w6 at Ja HB hHeld ⊢
  refine pure_ (i := 1) (N := some 8) (v := ?_) (a' := ?_) #[false, true, false, false, false, false] rfl rfl (by kernel_rfl) (fun _ _ _ h => h) (Or.inl ⟨by rfl, ?_⟩) ?_ ?_
  rotate_left
  ·intro w'
   go_simp
   with_reducible rfl
  rotate_left
  ·simp only [Act.put, List.setIfInBounds_toArray, List.set_cons_zero, List.set_cons_succ, i64_w, i32_w]
   rfl
  refine take_ (i := 0) (N := some 7) (v := ?_) (a' := ?_) #[true, true, false, false, false, false] rfl rfl (by kernel_rfl) (fun _ _ _ h => h) (Or.inl ⟨by rfl, ?_⟩) hHeld ?_ ?_
  rotate_left
  ·rintro w' ⟨s0, s1, s2, s3, s4, s5, s6, s7, s8, s9⟩
   go_simp
   with_reducible rfl
  rotate_left
  ·simp only [Act.put, List.setIfInBounds_toArray, List.set_cons_zero, List.set_cons_succ, i64_w, i32_w]
   rfl
  refine take_ (i := 2) (N := some 9) (v := ?_) (a' := ?_) #[true, true, true, false, false, false] rfl rfl (by kernel_rfl) (fun _ _ _ h => h) (Or.inl ⟨by rfl, ?_⟩) hHeld ?_ ?_
  rotate_left
  ·rintro w' ⟨s0, s1, s2, s3, s4, s5, s6, s7, s8, s9⟩
   go_simp
   with_reducible rfl
  rotate_left
  ·simp only [Act.put, List.setIfInBounds_toArray, List.set_cons_zero, List.set_cons_succ, i64_w, i32_w]
   rfl
  refine one_ (i := 3) (N := some 10) #[true, true, true, true, false, false] rfl rfl (by kernel_rfl) (by decide) (fun K hK => ?_)
  refine goes_ Try.func79 (by kernel_rfl) rfl #[.int .u64 Jk] (by rfl) rfl rfl (by (try simp only [List.map_toArray, List.map_cons, List.map_nil]); first | done | rfl | (simp only [List.length_drop, List.length_take]; rfl)) ?_
  with_reducible refine (escritoireref06_None.calls Jk t226 t227 t228 t229 t230 t231 t232 t233 t234 t235 _ A3.o).mono ?_
  rintro e w7 ⟨rfl, hb⟩
  refine ⟨_, rfl, ?_⟩
  have n0_ := ze.mk (zK (g := Jb) (o := .cells #[.int .i64 Jc, .int .i64 Je, .int .i64 Jd, .int .u64 Jk, .int .i64 Jj, .int .i64 Ji, .int .i64 Jh, .int .i64 Jg, .int .i64 Jf, .int .i64 Jl] 45 (0, 0)) (by (with_reducible repeat (first | refine zg ?_ _ | refine zi ?_ | refine zh ?_ _)); exact Ja.o) hb)
  have n1_ := ze.mk (zu (by repeat (first | (with_reducible first | exact HB.o | apply zl | apply zf | apply zk | refine zm ?_ Jn.o) | exact HB.o)) hb)
  clear Ja
  clear HB
  have Ja := n0_
  have HB := n1_
  clear n0_ n1_
  (try clear hb)
  (try clear hb2)
  (try clear hk)
  (try clear hi)
  refine hK.out _ _ ⟨(zb Ja.o 0).trans rfl, (zb Ja.o 1).trans rfl, (zb Ja.o 2).trans rfl, (zb Ja.o 3).trans rfl, (zb Ja.o 4).trans rfl, (zb Ja.o 5).trans rfl, (zb Ja.o 6).trans rfl, (zb Ja.o 7).trans rfl, (zb Ja.o 8).trans rfl, (zb Ja.o 9).trans rfl⟩ (fun hHeld => ?_)
  clear hK K
  refine norm_ (a' := ?_) ?_ ?_
  rotate_left
  ·show Act.put _ (some 10) _ = _
   simp only [Act.put, List.setIfInBounds_toArray, List.set_cons_zero, List.set_cons_succ, i64_w, i32_w]
   rfl
  refine pure_ (i := 4) (N := some 11) (v := ?_) (a' := ?_) #[true, true, true, true, true, false] rfl rfl (by kernel_rfl) (fun _ _ _ h => h) (Or.inl ⟨by rfl, ?_⟩) ?_ ?_
  rotate_left
  ·intro w'
   go_simp
   with_reducible rfl
  rotate_left
  ·simp only [Act.put, List.setIfInBounds_toArray, List.set_cons_zero, List.set_cons_succ, i64_w, i32_w]
   rfl
  refine pure_ (i := 5) (N := some 2) (v := ?_) (a' := ?_) #[true, true, true, true, true, true] rfl rfl (by kernel_rfl) (fun _ _ _ h => h) (Or.inl ⟨by rfl, ?_⟩) ?_ ?_
  rotate_left
  ·intro w'
   go_simp
   with_reducible rfl
  rotate_left
  ·simp only [Act.put, List.setIfInBounds_toArray, List.set_cons_zero, List.set_cons_succ, i64_w, i32_w]
   rfl
  refine done_ (by kernel_rfl) ?_
  try go_wp2
  go_ret
  exact ⟨by first | rfl | (simp [zy, zx] <;> rfl) | (simp [*, zy, zx] <;> rfl), by repeat (first | (with_reducible first | exact HB.o | apply zl | apply zf | apply zk | refine zm ?_ Jn.o) | exact HB.o)⟩
 ·rw [if_neg c2] at H
  have c2b0 : (Jc == 0) = false := beq_eq_false_iff_ne.mpr c2
  have c2b1 : (Jc != 0) = true := bne_iff_ne.mpr c2
  have H' := ze.mk H
  clear H
  go_enter Try.func80, Try.ntmps80
  go_wp2_with (first | ((with_reducible refine zC (N := 1) rfl ?_); refine zD ?hg (N := 1) ?hd (cs := #[.int .i64 Jc, .int .i64 Je, .int .i64 Jd, .int .u64 Jk, .int .i64 Jj, .int .i64 Ji, .int .i64 Jh, .int .i64 Jg, .int .i64 Jf, .int .i64 Jl]) (t := 45) ?hr ?_; (case hd => rfl); (case hg => rfl); (case hr => first | (go_simp; done) | (go_simp; rfl)); intro Jb hg w8 hbox hb; have n0_ := ze.mk (zu (by repeat (first | (with_reducible first | exact HB.o | apply zl | apply zf | apply zk) | exact HB.o)) hb); have n1_ := ze.mk (hbox); have n2_ := ze.mk ((by rw [hg]; exact (zt (by repeat (first | (with_reducible first | exact HB.o | apply zl | apply zf | apply zk) | exact HB.o))) : w.heap.size ≤ Jb)); have n3_ := ze.mk ((by rw [hg]; exact (zt (by repeat (first | (with_reducible first | exact HB.o | apply zl | apply zf | apply zk) | exact HB.o))) : w.heap.size ≤ Jb)); clear HB; have HB := n0_; have Ja := n1_; have JdZ := n2_; have Jn := n3_; clear n0_ n1_ n2_ n3_; clear hb hbox hg; have Gb : w8.cell? ⟨Jb, 0, none⟩ = some (.int .i64 Jc) := (zb Ja.o 0).trans rfl; have Ga : w8.cell? ⟨Jb, 1, none⟩ = some (.int .i64 Je) := (zb Ja.o 1).trans rfl; have J9 : w8.cell? ⟨Jb, 2, none⟩ = some (.int .i64 Jd) := (zb Ja.o 2).trans rfl; have J8 : w8.cell? ⟨Jb, 3, none⟩ = some (.int .u64 Jk) := (zb Ja.o 3).trans rfl; have J7 : w8.cell? ⟨Jb, 4, none⟩ = some (.int .i64 Jj) := (zb Ja.o 4).trans rfl; have J6 : w8.cell? ⟨Jb, 5, none⟩ = some (.int .i64 Ji) := (zb Ja.o 5).trans rfl; have J5 : w8.cell? ⟨Jb, 6, none⟩ = some (.int .i64 Jh) := (zb Ja.o 6).trans rfl; have J4 : w8.cell? ⟨Jb, 7, none⟩ = some (.int .i64 Jg) := (zb Ja.o 7).trans rfl; have J3 : w8.cell? ⟨Jb, 8, none⟩ = some (.int .i64 Jf) := (zb Ja.o 8).trans rfl; have J2 : w8.cell? ⟨Jb, 9, none⟩ = some (.int .i64 Jl) := (zb Ja.o 9).trans rfl; have JO := za Ja.o 0; have JN := za Ja.o 1; have JL := za Ja.o 2; have JK := za Ja.o 3; have JJ := za Ja.o 4; have JI := za Ja.o 5; have JH := za Ja.o 6; have JG := za Ja.o 7; have JF := za Ja.o 8; have JE := za Ja.o 9))
  go_loopg [3] k (fun kq v3 w' => ∃ (Jz : Int), v3 = .int .i64 Jz ∧ ze (escritoireref06_Right.l0 kq Jz Jc Je Jd Jk Jj Ji Jh Jg Jf Jl = some r) ∧ ze (kq ≤ k) ∧ ze (w'.heap[Jb]? = some (.cells #[.int .i64 Jc, .int .i64 Je, .int .i64 Jd, .int .u64 Jk, .int .i64 Jj, .int .i64 Ji, .int .i64 Jh, .int .i64 Jg, .int .i64 Jf, .int .i64 Jl] 45 (0, 0))) ∧ ze (Below w.heap.size w w'))
  case atStart => exact ⟨(0), (by first | rfl | (simp; done) | (simp [*]; done) | kernel_rfl), H', ⟨Nat.le_refl _⟩, ⟨by (with_reducible repeat (first | refine zg ?_ _ | refine zi ?_ | refine zh ?_ _)); exact Ja.o⟩, ⟨by repeat (first | (with_reducible first | exact HB.o | apply zl | apply zf | apply zk | refine zm ?_ Jn.o) | exact HB.o)⟩⟩
  case round =>
   clear H'
   try clear c2
   try clear c2b0
   try clear c2b1
   try clear p2
   try clear c7
   try clear c8
   try clear Gn
   try clear Gm
   try clear Gl
   try clear Gj
   try clear Gi
   try clear Gh
   try clear Gg
   try clear Gf
   try clear Gd
   try clear Gc
   try clear Gb
   try clear Ga
   try clear J9
   try clear J8
   try clear J7
   try clear J6
   try clear J5
   try clear J4
   try clear J3
   try clear J2
   try clear JZ
   try clear JY
   try clear JX
   try clear JW
   try clear JV
   try clear JU
   try clear JS
   try clear JR
   try clear JQ
   try clear JP
   try clear JO
   try clear JN
   try clear JL
   try clear JK
   try clear JJ
   try clear JI
   try clear JH
   try clear JG
   try clear JF
   try clear JE
   obtain ⟨Jz, rfl, HA, HK1, Ja, HB⟩ := hrel
   cases gk with
   | zero => exact absurd HA.o (by simp [escritoireref06_Right.l0])
   | succ k1 =>
    have H := HA.o
    clear HA
    simp only [escritoireref06_Right.l0] at H
    by_cases c10 : Jz < 5
    ·rw [if_pos c10] at H
     have JdY : decide (Jz < 5) = true := decide_eq_true c10
     clear c10
     by_cases c11 : Jz = 0
     ·subst c11
      have H1 : ((escritoireref06_block.f Jj).bind fun t236 => (if t236 = true then (escritoireref06_Right.l0 k1 (wrap64 (0 + 1)) Jc Je Jd Jk Jj Ji Jh Jg Jf Jl) else (some false))) = some r := by rw [if_pos rfl] at H; exact H
      clear H
      have H := H1
      clear H1
      replace H := Option.bind_eq_some_iff.mp H
      obtain ⟨t236, A120, H⟩ := H
      replace H : (if t236 = true then (escritoireref06_Right.l0 k1 (wrap64 (0 + 1)) Jc Je Jd Jk Jj Ji Jh Jg Jf Jl) else (some false)) = some r := H
      have A12 := ze.mk A120
      clear A120
      by_cases c13 : t236 = true
      ·subst c13
       have H1 : (escritoireref06_Right.l0 k1 (wrap64 (0 + 1)) Jc Je Jd Jk Jj Ji Jh Jg Jf Jl) = some r := by rw [if_pos rfl] at H; exact H
       clear H
       have H := H1
       clear H1
       have H' := ze.mk H
       clear H
       have JdR : wr.cell? ⟨Jb, 0, none⟩ = some (.int .i64 Jc) := (zb Ja.o 0).trans rfl
       have JdQ : wr.cell? ⟨Jb, 1, none⟩ = some (.int .i64 Je) := (zb Ja.o 1).trans rfl
       have JdP : wr.cell? ⟨Jb, 2, none⟩ = some (.int .i64 Jd) := (zb Ja.o 2).trans rfl
       have JdO : wr.cell? ⟨Jb, 3, none⟩ = some (.int .u64 Jk) := (zb Ja.o 3).trans rfl
       have JdN : wr.cell? ⟨Jb, 4, none⟩ = some (.int .i64 Jj) := (zb Ja.o 4).trans rfl
       have JdM : wr.cell? ⟨Jb, 5, none⟩ = some (.int .i64 Ji) := (zb Ja.o 5).trans rfl
       have JdL : wr.cell? ⟨Jb, 6, none⟩ = some (.int .i64 Jh) := (zb Ja.o 6).trans rfl
       have JdK : wr.cell? ⟨Jb, 7, none⟩ = some (.int .i64 Jg) := (zb Ja.o 7).trans rfl
       have JdJ : wr.cell? ⟨Jb, 8, none⟩ = some (.int .i64 Jf) := (zb Ja.o 8).trans rfl
       have JdI : wr.cell? ⟨Jb, 9, none⟩ = some (.int .i64 Jl) := (zb Ja.o 9).trans rfl
       have Ja7 := za Ja.o 0
       have Ja6 := za Ja.o 1
       have Ja5 := za Ja.o 2
       have Ja4 := za Ja.o 3
       have Ja3 := za Ja.o 4
       have Ja2 := za Ja.o 5
       have Ja1 := za Ja.o 6
       have Ja0 := za Ja.o 7
       have JaZ := za Ja.o 8
       have JaY := za Ja.o 9
       go_wp2_with (first | ((with_reducible refine zM (f := 98) rfl ?_); refine yl (some 20) rfl rfl Try.func98 (by kernel_rfl) rfl #[.int .i64 Jj] rfl (by (try simp only [List.map_toArray, List.map_cons, List.map_nil]); first | done | rfl | (simp only [List.length_drop, List.length_take]; rfl)) ?_; (with_reducible refine (escritoireref06_block.calls Jj true _ A12.o).mono ?_); rintro e w' ⟨rfl, ⟨nd, rfl⟩⟩; refine ⟨_, rfl, ?_⟩))
       go_roundg k1
       case measure => have := HK1.o; omega
       case rel => exact ⟨(wrap64 (0 + 1)), (by first | rfl | (simp; done) | (simp [*]; done) | kernel_rfl), H', ⟨by have := HK1.o; omega⟩, ⟨by (with_reducible repeat (first | refine zg ?_ _ | refine zi ?_ | refine zh ?_ _)); exact Ja.o⟩, ⟨by repeat (first | (with_reducible first | exact HB.o | apply zl | apply zf | apply zk | refine zm ?_ Jn.o) | exact HB.o)⟩⟩
      ·replace c13 := Bool.eq_false_iff.mpr c13
       subst c13
       have H1 : (some false) = some r := by rw [if_neg (show ¬ (false = true) by decide)] at H; exact H
       clear H
       have H := H1
       clear H1
       obtain rfl := Option.some.inj H
       have JdH : wr.cell? ⟨Jb, 0, none⟩ = some (.int .i64 Jc) := (zb Ja.o 0).trans rfl
       have JdG : wr.cell? ⟨Jb, 1, none⟩ = some (.int .i64 Je) := (zb Ja.o 1).trans rfl
       have JdF : wr.cell? ⟨Jb, 2, none⟩ = some (.int .i64 Jd) := (zb Ja.o 2).trans rfl
       have JdE : wr.cell? ⟨Jb, 3, none⟩ = some (.int .u64 Jk) := (zb Ja.o 3).trans rfl
       have JdD : wr.cell? ⟨Jb, 4, none⟩ = some (.int .i64 Jj) := (zb Ja.o 4).trans rfl
       have JdC : wr.cell? ⟨Jb, 5, none⟩ = some (.int .i64 Ji) := (zb Ja.o 5).trans rfl
       have JdB : wr.cell? ⟨Jb, 6, none⟩ = some (.int .i64 Jh) := (zb Ja.o 6).trans rfl
       have JdA : wr.cell? ⟨Jb, 7, none⟩ = some (.int .i64 Jg) := (zb Ja.o 7).trans rfl
       have Jdz : wr.cell? ⟨Jb, 8, none⟩ = some (.int .i64 Jf) := (zb Ja.o 8).trans rfl
       have Jdy : wr.cell? ⟨Jb, 9, none⟩ = some (.int .i64 Jl) := (zb Ja.o 9).trans rfl
       have JaX := za Ja.o 0
       have JaW := za Ja.o 1
       have JaV := za Ja.o 2
       have JaU := za Ja.o 3
       have JaT := za Ja.o 4
       have JaS := za Ja.o 5
       have JaR := za Ja.o 6
       have JaQ := za Ja.o 7
       have JaP := za Ja.o 8
       have JaO := za Ja.o 9
       go_wp2_with (first | ((with_reducible refine zM (f := 98) rfl ?_); refine yl (some 20) rfl rfl Try.func98 (by kernel_rfl) rfl #[.int .i64 Jj] rfl (by (try simp only [List.map_toArray, List.map_cons, List.map_nil]); first | done | rfl | (simp only [List.length_drop, List.length_take]; rfl)) ?_; (with_reducible refine (escritoireref06_block.calls Jj false _ A12.o).mono ?_); rintro e w' ⟨rfl, ⟨nd, rfl⟩⟩; refine ⟨_, rfl, ?_⟩))
       go_ret
       exact ⟨by first | rfl | (simp [zy, zx] <;> rfl) | (simp [*, zy, zx] <;> rfl), by repeat (first | (with_reducible first | exact HB.o | apply zl | apply zf | apply zk | refine zm ?_ Jn.o) | exact HB.o)⟩
     ·rw [if_neg c11] at H
      by_cases c16 : Jz = 1
      ·subst c16
       have H1 : ((escritoireref06_block.f Ji).bind fun JD => (if JD = true then (escritoireref06_Right.l0 k1 (wrap64 (1 + 1)) Jc Je Jd Jk Jj Ji Jh Jg Jf Jl) else (some false))) = some r := by rw [if_pos rfl] at H; exact H
       clear H
       have H := H1
       clear H1
       replace H := Option.bind_eq_some_iff.mp H
       obtain ⟨JD, A170, H⟩ := H
       replace H : (if JD = true then (escritoireref06_Right.l0 k1 (wrap64 (1 + 1)) Jc Je Jd Jk Jj Ji Jh Jg Jf Jl) else (some false)) = some r := H
       have A17 := ze.mk A170
       clear A170
       by_cases c18 : JD = true
       ·subst c18
        have H1 : (escritoireref06_Right.l0 k1 (wrap64 (1 + 1)) Jc Je Jd Jk Jj Ji Jh Jg Jf Jl) = some r := by rw [if_pos rfl] at H; exact H
        clear H
        have H := H1
        clear H1
        have H' := ze.mk H
        clear H
        have Jdx : wr.cell? ⟨Jb, 0, none⟩ = some (.int .i64 Jc) := (zb Ja.o 0).trans rfl
        have Jdw : wr.cell? ⟨Jb, 1, none⟩ = some (.int .i64 Je) := (zb Ja.o 1).trans rfl
        have Jdv : wr.cell? ⟨Jb, 2, none⟩ = some (.int .i64 Jd) := (zb Ja.o 2).trans rfl
        have Jdu : wr.cell? ⟨Jb, 3, none⟩ = some (.int .u64 Jk) := (zb Ja.o 3).trans rfl
        have Jdt : wr.cell? ⟨Jb, 4, none⟩ = some (.int .i64 Jj) := (zb Ja.o 4).trans rfl
        have Jds : wr.cell? ⟨Jb, 5, none⟩ = some (.int .i64 Ji) := (zb Ja.o 5).trans rfl
        have Jdr : wr.cell? ⟨Jb, 6, none⟩ = some (.int .i64 Jh) := (zb Ja.o 6).trans rfl
        have Jdq : wr.cell? ⟨Jb, 7, none⟩ = some (.int .i64 Jg) := (zb Ja.o 7).trans rfl
        have Jdp : wr.cell? ⟨Jb, 8, none⟩ = some (.int .i64 Jf) := (zb Ja.o 8).trans rfl
        have Jdo : wr.cell? ⟨Jb, 9, none⟩ = some (.int .i64 Jl) := (zb Ja.o 9).trans rfl
        have JaN := za Ja.o 0
        have JaM := za Ja.o 1
        have JaL := za Ja.o 2
        have JaK := za Ja.o 3
        have JaJ := za Ja.o 4
        have JaI := za Ja.o 5
        have JaH := za Ja.o 6
        have JaG := za Ja.o 7
        have JaF := za Ja.o 8
        have JaE := za Ja.o 9
        go_wp2_with (first | ((with_reducible refine zM (f := 98) rfl ?_); refine yl (some 20) rfl rfl Try.func98 (by kernel_rfl) rfl #[.int .i64 Ji] rfl (by (try simp only [List.map_toArray, List.map_cons, List.map_nil]); first | done | rfl | (simp only [List.length_drop, List.length_take]; rfl)) ?_; (with_reducible refine (escritoireref06_block.calls Ji true _ A17.o).mono ?_); rintro e w' ⟨rfl, ⟨nd, rfl⟩⟩; refine ⟨_, rfl, ?_⟩))
        go_roundg k1
        case measure => have := HK1.o; omega
        case rel => exact ⟨(wrap64 (1 + 1)), (by first | rfl | (simp; done) | (simp [*]; done) | kernel_rfl), H', ⟨by have := HK1.o; omega⟩, ⟨by (with_reducible repeat (first | refine zg ?_ _ | refine zi ?_ | refine zh ?_ _)); exact Ja.o⟩, ⟨by repeat (first | (with_reducible first | exact HB.o | apply zl | apply zf | apply zk | refine zm ?_ Jn.o) | exact HB.o)⟩⟩
       ·replace c18 := Bool.eq_false_iff.mpr c18
        subst c18
        have H1 : (some false) = some r := by rw [if_neg (show ¬ (false = true) by decide)] at H; exact H
        clear H
        have H := H1
        clear H1
        obtain rfl := Option.some.inj H
        have Jdn : wr.cell? ⟨Jb, 0, none⟩ = some (.int .i64 Jc) := (zb Ja.o 0).trans rfl
        have Jdm : wr.cell? ⟨Jb, 1, none⟩ = some (.int .i64 Je) := (zb Ja.o 1).trans rfl
        have Jdl : wr.cell? ⟨Jb, 2, none⟩ = some (.int .i64 Jd) := (zb Ja.o 2).trans rfl
        have Jdk : wr.cell? ⟨Jb, 3, none⟩ = some (.int .u64 Jk) := (zb Ja.o 3).trans rfl
        have Jdj : wr.cell? ⟨Jb, 4, none⟩ = some (.int .i64 Jj) := (zb Ja.o 4).trans rfl
        have Jdi : wr.cell? ⟨Jb, 5, none⟩ = some (.int .i64 Ji) := (zb Ja.o 5).trans rfl
        have Jdh : wr.cell? ⟨Jb, 6, none⟩ = some (.int .i64 Jh) := (zb Ja.o 6).trans rfl
        have Jdg : wr.cell? ⟨Jb, 7, none⟩ = some (.int .i64 Jg) := (zb Ja.o 7).trans rfl
        have Jdf : wr.cell? ⟨Jb, 8, none⟩ = some (.int .i64 Jf) := (zb Ja.o 8).trans rfl
        have Jde : wr.cell? ⟨Jb, 9, none⟩ = some (.int .i64 Jl) := (zb Ja.o 9).trans rfl
        have JaD := za Ja.o 0
        have JaC := za Ja.o 1
        have JaB := za Ja.o 2
        have JaA := za Ja.o 3
        have Jaz := za Ja.o 4
        have Jay := za Ja.o 5
        have Jax := za Ja.o 6
        have Jaw := za Ja.o 7
        have Jav := za Ja.o 8
        have Jau := za Ja.o 9
        go_wp2_with (first | ((with_reducible refine zM (f := 98) rfl ?_); refine yl (some 20) rfl rfl Try.func98 (by kernel_rfl) rfl #[.int .i64 Ji] rfl (by (try simp only [List.map_toArray, List.map_cons, List.map_nil]); first | done | rfl | (simp only [List.length_drop, List.length_take]; rfl)) ?_; (with_reducible refine (escritoireref06_block.calls Ji false _ A17.o).mono ?_); rintro e w' ⟨rfl, ⟨nd, rfl⟩⟩; refine ⟨_, rfl, ?_⟩))
        go_ret
        exact ⟨by first | rfl | (simp [zy, zx] <;> rfl) | (simp [*, zy, zx] <;> rfl), by repeat (first | (with_reducible first | exact HB.o | apply zl | apply zf | apply zk | refine zm ?_ Jn.o) | exact HB.o)⟩
      ·rw [if_neg c16] at H
       by_cases c21 : Jz = 2
       ·subst c21
        have H1 : ((escritoireref06_block.f Jh).bind fun JC => (if JC = true then (escritoireref06_Right.l0 k1 (wrap64 (2 + 1)) Jc Je Jd Jk Jj Ji Jh Jg Jf Jl) else (some false))) = some r := by rw [if_pos rfl] at H; exact H
        clear H
        have H := H1
        clear H1
        replace H := Option.bind_eq_some_iff.mp H
        obtain ⟨JC, A220, H⟩ := H
        replace H : (if JC = true then (escritoireref06_Right.l0 k1 (wrap64 (2 + 1)) Jc Je Jd Jk Jj Ji Jh Jg Jf Jl) else (some false)) = some r := H
        have A22 := ze.mk A220
        clear A220
        by_cases c23 : JC = true
        ·subst c23
         have H1 : (escritoireref06_Right.l0 k1 (wrap64 (2 + 1)) Jc Je Jd Jk Jj Ji Jh Jg Jf Jl) = some r := by rw [if_pos rfl] at H; exact H
         clear H
         have H := H1
         clear H1
         have H' := ze.mk H
         clear H
         have Jdd : wr.cell? ⟨Jb, 0, none⟩ = some (.int .i64 Jc) := (zb Ja.o 0).trans rfl
         have Jdc : wr.cell? ⟨Jb, 1, none⟩ = some (.int .i64 Je) := (zb Ja.o 1).trans rfl
         have Jdb : wr.cell? ⟨Jb, 2, none⟩ = some (.int .i64 Jd) := (zb Ja.o 2).trans rfl
         have Jda : wr.cell? ⟨Jb, 3, none⟩ = some (.int .u64 Jk) := (zb Ja.o 3).trans rfl
         have Jc9 : wr.cell? ⟨Jb, 4, none⟩ = some (.int .i64 Jj) := (zb Ja.o 4).trans rfl
         have Jc8 : wr.cell? ⟨Jb, 5, none⟩ = some (.int .i64 Ji) := (zb Ja.o 5).trans rfl
         have Jc7 : wr.cell? ⟨Jb, 6, none⟩ = some (.int .i64 Jh) := (zb Ja.o 6).trans rfl
         have Jc6 : wr.cell? ⟨Jb, 7, none⟩ = some (.int .i64 Jg) := (zb Ja.o 7).trans rfl
         have Jc5 : wr.cell? ⟨Jb, 8, none⟩ = some (.int .i64 Jf) := (zb Ja.o 8).trans rfl
         have Jc4 : wr.cell? ⟨Jb, 9, none⟩ = some (.int .i64 Jl) := (zb Ja.o 9).trans rfl
         have Jat := za Ja.o 0
         have Jas := za Ja.o 1
         have Jar := za Ja.o 2
         have Jaq := za Ja.o 3
         have Jap := za Ja.o 4
         have Jao := za Ja.o 5
         have Jan := za Ja.o 6
         have Jam := za Ja.o 7
         have Jal := za Ja.o 8
         have Jak := za Ja.o 9
         go_wp2_with (first | ((with_reducible refine zM (f := 98) rfl ?_); refine yl (some 20) rfl rfl Try.func98 (by kernel_rfl) rfl #[.int .i64 Jh] rfl (by (try simp only [List.map_toArray, List.map_cons, List.map_nil]); first | done | rfl | (simp only [List.length_drop, List.length_take]; rfl)) ?_; (with_reducible refine (escritoireref06_block.calls Jh true _ A22.o).mono ?_); rintro e w' ⟨rfl, ⟨nd, rfl⟩⟩; refine ⟨_, rfl, ?_⟩))
         go_roundg k1
         case measure => have := HK1.o; omega
         case rel => exact ⟨(wrap64 (2 + 1)), (by first | rfl | (simp; done) | (simp [*]; done) | kernel_rfl), H', ⟨by have := HK1.o; omega⟩, ⟨by (with_reducible repeat (first | refine zg ?_ _ | refine zi ?_ | refine zh ?_ _)); exact Ja.o⟩, ⟨by repeat (first | (with_reducible first | exact HB.o | apply zl | apply zf | apply zk | refine zm ?_ Jn.o) | exact HB.o)⟩⟩
        ·replace c23 := Bool.eq_false_iff.mpr c23
         subst c23
         have H1 : (some false) = some r := by rw [if_neg (show ¬ (false = true) by decide)] at H; exact H
         clear H
         have H := H1
         clear H1
         obtain rfl := Option.some.inj H
         have Jc3 : wr.cell? ⟨Jb, 0, none⟩ = some (.int .i64 Jc) := (zb Ja.o 0).trans rfl
         have Jc2 : wr.cell? ⟨Jb, 1, none⟩ = some (.int .i64 Je) := (zb Ja.o 1).trans rfl
         have Jc1 : wr.cell? ⟨Jb, 2, none⟩ = some (.int .i64 Jd) := (zb Ja.o 2).trans rfl
         have Jc0 : wr.cell? ⟨Jb, 3, none⟩ = some (.int .u64 Jk) := (zb Ja.o 3).trans rfl
         have JcZ : wr.cell? ⟨Jb, 4, none⟩ = some (.int .i64 Jj) := (zb Ja.o 4).trans rfl
         have JcY : wr.cell? ⟨Jb, 5, none⟩ = some (.int .i64 Ji) := (zb Ja.o 5).trans rfl
         have JcX : wr.cell? ⟨Jb, 6, none⟩ = some (.int .i64 Jh) := (zb Ja.o 6).trans rfl
         have JcW : wr.cell? ⟨Jb, 7, none⟩ = some (.int .i64 Jg) := (zb Ja.o 7).trans rfl
         have JcV : wr.cell? ⟨Jb, 8, none⟩ = some (.int .i64 Jf) := (zb Ja.o 8).trans rfl
         have JcU : wr.cell? ⟨Jb, 9, none⟩ = some (.int .i64 Jl) := (zb Ja.o 9).trans rfl
         have Jaj := za Ja.o 0
         have Jai := za Ja.o 1
         have Jah := za Ja.o 2
         have Jag := za Ja.o 3
         have Jaf := za Ja.o 4
         have Jae := za Ja.o 5
         have Jad := za Ja.o 6
         have Jac := za Ja.o 7
         have Jab := za Ja.o 8
         have Jaa := za Ja.o 9
         go_wp2_with (first | ((with_reducible refine zM (f := 98) rfl ?_); refine yl (some 20) rfl rfl Try.func98 (by kernel_rfl) rfl #[.int .i64 Jh] rfl (by (try simp only [List.map_toArray, List.map_cons, List.map_nil]); first | done | rfl | (simp only [List.length_drop, List.length_take]; rfl)) ?_; (with_reducible refine (escritoireref06_block.calls Jh false _ A22.o).mono ?_); rintro e w' ⟨rfl, ⟨nd, rfl⟩⟩; refine ⟨_, rfl, ?_⟩))
         go_ret
         exact ⟨by first | rfl | (simp [zy, zx] <;> rfl) | (simp [*, zy, zx] <;> rfl), by repeat (first | (with_reducible first | exact HB.o | apply zl | apply zf | apply zk | refine zm ?_ Jn.o) | exact HB.o)⟩
       ·rw [if_neg c21] at H
        by_cases c26 : Jz = 3
        ·subst c26
         have H1 : ((escritoireref06_block.f Jg).bind fun JB => (if JB = true then (escritoireref06_Right.l0 k1 (wrap64 (3 + 1)) Jc Je Jd Jk Jj Ji Jh Jg Jf Jl) else (some false))) = some r := by rw [if_pos rfl] at H; exact H
         clear H
         have H := H1
         clear H1
         replace H := Option.bind_eq_some_iff.mp H
         obtain ⟨JB, A270, H⟩ := H
         replace H : (if JB = true then (escritoireref06_Right.l0 k1 (wrap64 (3 + 1)) Jc Je Jd Jk Jj Ji Jh Jg Jf Jl) else (some false)) = some r := H
         have A27 := ze.mk A270
         clear A270
         by_cases c28 : JB = true
         ·subst c28
          have H1 : (escritoireref06_Right.l0 k1 (wrap64 (3 + 1)) Jc Je Jd Jk Jj Ji Jh Jg Jf Jl) = some r := by rw [if_pos rfl] at H; exact H
          clear H
          have H := H1
          clear H1
          have H' := ze.mk H
          clear H
          have JcT : wr.cell? ⟨Jb, 0, none⟩ = some (.int .i64 Jc) := (zb Ja.o 0).trans rfl
          have JcS : wr.cell? ⟨Jb, 1, none⟩ = some (.int .i64 Je) := (zb Ja.o 1).trans rfl
          have JcR : wr.cell? ⟨Jb, 2, none⟩ = some (.int .i64 Jd) := (zb Ja.o 2).trans rfl
          have JcQ : wr.cell? ⟨Jb, 3, none⟩ = some (.int .u64 Jk) := (zb Ja.o 3).trans rfl
          have JcP : wr.cell? ⟨Jb, 4, none⟩ = some (.int .i64 Jj) := (zb Ja.o 4).trans rfl
          have JcO : wr.cell? ⟨Jb, 5, none⟩ = some (.int .i64 Ji) := (zb Ja.o 5).trans rfl
          have JcN : wr.cell? ⟨Jb, 6, none⟩ = some (.int .i64 Jh) := (zb Ja.o 6).trans rfl
          have JcM : wr.cell? ⟨Jb, 7, none⟩ = some (.int .i64 Jg) := (zb Ja.o 7).trans rfl
          have JcL : wr.cell? ⟨Jb, 8, none⟩ = some (.int .i64 Jf) := (zb Ja.o 8).trans rfl
          have JcK : wr.cell? ⟨Jb, 9, none⟩ = some (.int .i64 Jl) := (zb Ja.o 9).trans rfl
          have BZ := za Ja.o 0
          have BX := za Ja.o 1
          have BV := za Ja.o 2
          have BU := za Ja.o 3
          have BS := za Ja.o 4
          have BR := za Ja.o 5
          have BQ := za Ja.o 6
          have BP := za Ja.o 7
          have BO := za Ja.o 8
          have BM := za Ja.o 9
          go_wp2_with (first | ((with_reducible refine zM (f := 98) rfl ?_); refine yl (some 20) rfl rfl Try.func98 (by kernel_rfl) rfl #[.int .i64 Jg] rfl (by (try simp only [List.map_toArray, List.map_cons, List.map_nil]); first | done | rfl | (simp only [List.length_drop, List.length_take]; rfl)) ?_; (with_reducible refine (escritoireref06_block.calls Jg true _ A27.o).mono ?_); rintro e w' ⟨rfl, ⟨nd, rfl⟩⟩; refine ⟨_, rfl, ?_⟩))
          go_roundg k1
          case measure => have := HK1.o; omega
          case rel => exact ⟨(wrap64 (3 + 1)), (by first | rfl | (simp; done) | (simp [*]; done) | kernel_rfl), H', ⟨by have := HK1.o; omega⟩, ⟨by (with_reducible repeat (first | refine zg ?_ _ | refine zi ?_ | refine zh ?_ _)); exact Ja.o⟩, ⟨by repeat (first | (with_reducible first | exact HB.o | apply zl | apply zf | apply zk | refine zm ?_ Jn.o) | exact HB.o)⟩⟩
         ·replace c28 := Bool.eq_false_iff.mpr c28
          subst c28
          have H1 : (some false) = some r := by rw [if_neg (show ¬ (false = true) by decide)] at H; exact H
          clear H
          have H := H1
          clear H1
          obtain rfl := Option.some.inj H
          have JcJ : wr.cell? ⟨Jb, 0, none⟩ = some (.int .i64 Jc) := (zb Ja.o 0).trans rfl
          have JcI : wr.cell? ⟨Jb, 1, none⟩ = some (.int .i64 Je) := (zb Ja.o 1).trans rfl
          have JcH : wr.cell? ⟨Jb, 2, none⟩ = some (.int .i64 Jd) := (zb Ja.o 2).trans rfl
          have JcG : wr.cell? ⟨Jb, 3, none⟩ = some (.int .u64 Jk) := (zb Ja.o 3).trans rfl
          have JcF : wr.cell? ⟨Jb, 4, none⟩ = some (.int .i64 Jj) := (zb Ja.o 4).trans rfl
          have JcE : wr.cell? ⟨Jb, 5, none⟩ = some (.int .i64 Ji) := (zb Ja.o 5).trans rfl
          have JcD : wr.cell? ⟨Jb, 6, none⟩ = some (.int .i64 Jh) := (zb Ja.o 6).trans rfl
          have JcC : wr.cell? ⟨Jb, 7, none⟩ = some (.int .i64 Jg) := (zb Ja.o 7).trans rfl
          have JcB : wr.cell? ⟨Jb, 8, none⟩ = some (.int .i64 Jf) := (zb Ja.o 8).trans rfl
          have JcA : wr.cell? ⟨Jb, 9, none⟩ = some (.int .i64 Jl) := (zb Ja.o 9).trans rfl
          have BL := za Ja.o 0
          have BJ := za Ja.o 1
          have BI := za Ja.o 2
          have BH := za Ja.o 3
          have BG := za Ja.o 4
          have BF := za Ja.o 5
          have BD := za Ja.o 6
          have BC := za Ja.o 7
          have BA := za Ja.o 8
          have Bz := za Ja.o 9
          go_wp2_with (first | ((with_reducible refine zM (f := 98) rfl ?_); refine yl (some 20) rfl rfl Try.func98 (by kernel_rfl) rfl #[.int .i64 Jg] rfl (by (try simp only [List.map_toArray, List.map_cons, List.map_nil]); first | done | rfl | (simp only [List.length_drop, List.length_take]; rfl)) ?_; (with_reducible refine (escritoireref06_block.calls Jg false _ A27.o).mono ?_); rintro e w' ⟨rfl, ⟨nd, rfl⟩⟩; refine ⟨_, rfl, ?_⟩))
          go_ret
          exact ⟨by first | rfl | (simp [zy, zx] <;> rfl) | (simp [*, zy, zx] <;> rfl), by repeat (first | (with_reducible first | exact HB.o | apply zl | apply zf | apply zk | refine zm ?_ Jn.o) | exact HB.o)⟩
        ·rw [if_neg c26] at H
         by_cases c31 : Jz = 4
         ·subst c31
          have H1 : ((escritoireref06_block.f Jf).bind fun JA => (if JA = true then (escritoireref06_Right.l0 k1 (wrap64 (4 + 1)) Jc Je Jd Jk Jj Ji Jh Jg Jf Jl) else (some false))) = some r := by rw [if_pos rfl] at H; exact H
          clear H
          have H := H1
          clear H1
          replace H := Option.bind_eq_some_iff.mp H
          obtain ⟨JA, A320, H⟩ := H
          replace H : (if JA = true then (escritoireref06_Right.l0 k1 (wrap64 (4 + 1)) Jc Je Jd Jk Jj Ji Jh Jg Jf Jl) else (some false)) = some r := H
          have A32 := ze.mk A320
          clear A320
          by_cases c33 : JA = true
          ·subst c33
           have H1 : (escritoireref06_Right.l0 k1 (wrap64 (4 + 1)) Jc Je Jd Jk Jj Ji Jh Jg Jf Jl) = some r := by rw [if_pos rfl] at H; exact H
           clear H
           have H := H1
           clear H1
           have H' := ze.mk H
           clear H
           have Jcz : wr.cell? ⟨Jb, 0, none⟩ = some (.int .i64 Jc) := (zb Ja.o 0).trans rfl
           have Jcy : wr.cell? ⟨Jb, 1, none⟩ = some (.int .i64 Je) := (zb Ja.o 1).trans rfl
           have Jcx : wr.cell? ⟨Jb, 2, none⟩ = some (.int .i64 Jd) := (zb Ja.o 2).trans rfl
           have Jcw : wr.cell? ⟨Jb, 3, none⟩ = some (.int .u64 Jk) := (zb Ja.o 3).trans rfl
           have Jcv : wr.cell? ⟨Jb, 4, none⟩ = some (.int .i64 Jj) := (zb Ja.o 4).trans rfl
           have Jcu : wr.cell? ⟨Jb, 5, none⟩ = some (.int .i64 Ji) := (zb Ja.o 5).trans rfl
           have Jct : wr.cell? ⟨Jb, 6, none⟩ = some (.int .i64 Jh) := (zb Ja.o 6).trans rfl
           have Jcs : wr.cell? ⟨Jb, 7, none⟩ = some (.int .i64 Jg) := (zb Ja.o 7).trans rfl
           have Jcr : wr.cell? ⟨Jb, 8, none⟩ = some (.int .i64 Jf) := (zb Ja.o 8).trans rfl
           have Jcq : wr.cell? ⟨Jb, 9, none⟩ = some (.int .i64 Jl) := (zb Ja.o 9).trans rfl
           have Bw := za Ja.o 0
           have Bv := za Ja.o 1
           have Bu := za Ja.o 2
           have Bt := za Ja.o 3
           have Br := za Ja.o 4
           have Bq := za Ja.o 5
           have Bp := za Ja.o 6
           have Bo := za Ja.o 7
           have Bn := za Ja.o 8
           have Bl := za Ja.o 9
           go_wp2_with (first | ((with_reducible refine zM (f := 98) rfl ?_); refine yl (some 20) rfl rfl Try.func98 (by kernel_rfl) rfl #[.int .i64 Jf] rfl (by (try simp only [List.map_toArray, List.map_cons, List.map_nil]); first | done | rfl | (simp only [List.length_drop, List.length_take]; rfl)) ?_; (with_reducible refine (escritoireref06_block.calls Jf true _ A32.o).mono ?_); rintro e w' ⟨rfl, ⟨nd, rfl⟩⟩; refine ⟨_, rfl, ?_⟩))
           go_roundg k1
           case measure => have := HK1.o; omega
           case rel => exact ⟨(wrap64 (4 + 1)), (by first | rfl | (simp; done) | (simp [*]; done) | kernel_rfl), H', ⟨by have := HK1.o; omega⟩, ⟨by (with_reducible repeat (first | refine zg ?_ _ | refine zi ?_ | refine zh ?_ _)); exact Ja.o⟩, ⟨by repeat (first | (with_reducible first | exact HB.o | apply zl | apply zf | apply zk | refine zm ?_ Jn.o) | exact HB.o)⟩⟩
          ·replace c33 := Bool.eq_false_iff.mpr c33
           subst c33
           have H1 : (some false) = some r := by rw [if_neg (show ¬ (false = true) by decide)] at H; exact H
           clear H
           have H := H1
           clear H1
           obtain rfl := Option.some.inj H
           have Jcp : wr.cell? ⟨Jb, 0, none⟩ = some (.int .i64 Jc) := (zb Ja.o 0).trans rfl
           have Jco : wr.cell? ⟨Jb, 1, none⟩ = some (.int .i64 Je) := (zb Ja.o 1).trans rfl
           have Jcn : wr.cell? ⟨Jb, 2, none⟩ = some (.int .i64 Jd) := (zb Ja.o 2).trans rfl
           have Jcm : wr.cell? ⟨Jb, 3, none⟩ = some (.int .u64 Jk) := (zb Ja.o 3).trans rfl
           have Jcl : wr.cell? ⟨Jb, 4, none⟩ = some (.int .i64 Jj) := (zb Ja.o 4).trans rfl
           have Jck : wr.cell? ⟨Jb, 5, none⟩ = some (.int .i64 Ji) := (zb Ja.o 5).trans rfl
           have Jcj : wr.cell? ⟨Jb, 6, none⟩ = some (.int .i64 Jh) := (zb Ja.o 6).trans rfl
           have Jci : wr.cell? ⟨Jb, 7, none⟩ = some (.int .i64 Jg) := (zb Ja.o 7).trans rfl
           have Jch : wr.cell? ⟨Jb, 8, none⟩ = some (.int .i64 Jf) := (zb Ja.o 8).trans rfl
           have Jcg : wr.cell? ⟨Jb, 9, none⟩ = some (.int .i64 Jl) := (zb Ja.o 9).trans rfl
           have Bj := za Ja.o 0
           have Bi := za Ja.o 1
           have Bh := za Ja.o 2
           have Bg := za Ja.o 3
           have Bf := za Ja.o 4
           have Be := za Ja.o 5
           have Bd := za Ja.o 6
           have Bc := za Ja.o 7
           have Bb := za Ja.o 8
           have Ba := za Ja.o 9
           go_wp2_with (first | ((with_reducible refine zM (f := 98) rfl ?_); refine yl (some 20) rfl rfl Try.func98 (by kernel_rfl) rfl #[.int .i64 Jf] rfl (by (try simp only [List.map_toArray, List.map_cons, List.map_nil]); first | done | rfl | (simp only [List.length_drop, List.length_take]; rfl)) ?_; (with_reducible refine (escritoireref06_block.calls Jf false _ A32.o).mono ?_); rintro e w' ⟨rfl, ⟨nd, rfl⟩⟩; refine ⟨_, rfl, ?_⟩))
           go_ret
           exact ⟨by first | rfl | (simp [zy, zx] <;> rfl) | (simp [*, zy, zx] <;> rfl), by repeat (first | (with_reducible first | exact HB.o | apply zl | apply zf | apply zk | refine zm ?_ Jn.o) | exact HB.o)⟩
         ·rw [if_neg c31] at H
          exact absurd H (by simp)
    ·rw [if_neg c10] at H
     have JdY : decide (Jz < 5) = false := decide_eq_false c10
     clear c10
     by_cases c36 : Jc ≥ 1
     ·rw [if_pos c36] at H
      have JdX : decide (1 ≤ Jc) = true := decide_eq_true c36
      clear c36
      by_cases c37 : Jc ≤ 3
      ·rw [if_pos c37] at H
       have JdW : decide (Jc ≤ 3) = true := decide_eq_true c37
       clear c37
       by_cases c38 : Je ≥ 0
       ·rw [if_pos c38] at H
        have JdV : decide (0 ≤ Je) = true := decide_eq_true c38
        clear c38
        by_cases c39 : Je ≤ 255
        ·rw [if_pos c39] at H
         have JdU : decide (Je ≤ 255) = true := decide_eq_true c39
         clear c39
         by_cases c40 : Jd ≥ 0
         ·rw [if_pos c40] at H
          have JdT : decide (0 ≤ Jd) = true := decide_eq_true c40
          clear c40
          by_cases c41 : Jd ≤ 2688
          ·rw [if_pos c41] at H
           have JdS : decide (Jd ≤ 2688) = true := decide_eq_true c41
           clear c41
           replace H := Option.bind_eq_some_iff.mp H
           obtain ⟨Gp, A420, H⟩ := H
           replace H : (some Gp) = some r := H
           have A42 := ze.mk A420
           clear A420
           obtain rfl := Option.some.inj H
           have Jcf : wr.cell? ⟨Jb, 0, none⟩ = some (.int .i64 Jc) := (zb Ja.o 0).trans rfl
           have Jce : wr.cell? ⟨Jb, 1, none⟩ = some (.int .i64 Je) := (zb Ja.o 1).trans rfl
           have Jcd : wr.cell? ⟨Jb, 2, none⟩ = some (.int .i64 Jd) := (zb Ja.o 2).trans rfl
           have Jcc : wr.cell? ⟨Jb, 3, none⟩ = some (.int .u64 Jk) := (zb Ja.o 3).trans rfl
           have Jcb : wr.cell? ⟨Jb, 4, none⟩ = some (.int .i64 Jj) := (zb Ja.o 4).trans rfl
           have Jca : wr.cell? ⟨Jb, 5, none⟩ = some (.int .i64 Ji) := (zb Ja.o 5).trans rfl
           have Jb9 : wr.cell? ⟨Jb, 6, none⟩ = some (.int .i64 Jh) := (zb Ja.o 6).trans rfl
           have Jb8 : wr.cell? ⟨Jb, 7, none⟩ = some (.int .i64 Jg) := (zb Ja.o 7).trans rfl
           have Jb7 : wr.cell? ⟨Jb, 8, none⟩ = some (.int .i64 Jf) := (zb Ja.o 8).trans rfl
           have Jb6 : wr.cell? ⟨Jb, 9, none⟩ = some (.int .i64 Jl) := (zb Ja.o 9).trans rfl
           have D7 := za Ja.o 0
           have D6 := za Ja.o 1
           have D5 := za Ja.o 2
           have DZ := za Ja.o 3
           have DY := za Ja.o 4
           have DX := za Ja.o 5
           have DW := za Ja.o 6
           have DV := za Ja.o 7
           have DU := za Ja.o 8
           have DT := za Ja.o 9
           go_wp2_with (first | (go_at_call 98; (with_reducible refine (escritoireref06_block.calls Jl Gp _ A42.o).mono ?_); rintro e w' ⟨rfl, ⟨nd, rfl⟩⟩))
           go_ret
           exact ⟨by first | rfl | (simp [zy, zx] <;> rfl) | (simp [*, zy, zx] <;> rfl), by repeat (first | (with_reducible first | exact HB.o | apply zl | apply zf | apply zk | refine zm ?_ Jn.o) | exact HB.o)⟩
          ·rw [if_neg c41] at H
           have JdS : decide (Jd ≤ 2688) = false := decide_eq_false c41
           clear c41
           obtain rfl := Option.some.inj H
           have Jb5 : wr.cell? ⟨Jb, 0, none⟩ = some (.int .i64 Jc) := (zb Ja.o 0).trans rfl
           have Jb4 : wr.cell? ⟨Jb, 1, none⟩ = some (.int .i64 Je) := (zb Ja.o 1).trans rfl
           have Jb3 : wr.cell? ⟨Jb, 2, none⟩ = some (.int .i64 Jd) := (zb Ja.o 2).trans rfl
           have Jb2 : wr.cell? ⟨Jb, 3, none⟩ = some (.int .u64 Jk) := (zb Ja.o 3).trans rfl
           have Jb1 : wr.cell? ⟨Jb, 4, none⟩ = some (.int .i64 Jj) := (zb Ja.o 4).trans rfl
           have Jb0 : wr.cell? ⟨Jb, 5, none⟩ = some (.int .i64 Ji) := (zb Ja.o 5).trans rfl
           have JbZ : wr.cell? ⟨Jb, 6, none⟩ = some (.int .i64 Jh) := (zb Ja.o 6).trans rfl
           have JbY : wr.cell? ⟨Jb, 7, none⟩ = some (.int .i64 Jg) := (zb Ja.o 7).trans rfl
           have JbX : wr.cell? ⟨Jb, 8, none⟩ = some (.int .i64 Jf) := (zb Ja.o 8).trans rfl
           have JbW : wr.cell? ⟨Jb, 9, none⟩ = some (.int .i64 Jl) := (zb Ja.o 9).trans rfl
           have DR := za Ja.o 0
           have DN := za Ja.o 1
           have DL := za Ja.o 2
           have DK := za Ja.o 3
           have DJ := za Ja.o 4
           have DI := za Ja.o 5
           have DF := za Ja.o 6
           have DD := za Ja.o 7
           have DC := za Ja.o 8
           have Dz := za Ja.o 9
           go_wp2
           go_ret
           exact ⟨by first | rfl | (simp [zy, zx] <;> rfl) | (simp [*, zy, zx] <;> rfl), by repeat (first | (with_reducible first | exact HB.o | apply zl | apply zf | apply zk | refine zm ?_ Jn.o) | exact HB.o)⟩
         ·rw [if_neg c40] at H
          have JdT : decide (0 ≤ Jd) = false := decide_eq_false c40
          clear c40
          obtain rfl := Option.some.inj H
          have JbV : wr.cell? ⟨Jb, 0, none⟩ = some (.int .i64 Jc) := (zb Ja.o 0).trans rfl
          have JbU : wr.cell? ⟨Jb, 1, none⟩ = some (.int .i64 Je) := (zb Ja.o 1).trans rfl
          have JbT : wr.cell? ⟨Jb, 2, none⟩ = some (.int .i64 Jd) := (zb Ja.o 2).trans rfl
          have JbS : wr.cell? ⟨Jb, 3, none⟩ = some (.int .u64 Jk) := (zb Ja.o 3).trans rfl
          have JbR : wr.cell? ⟨Jb, 4, none⟩ = some (.int .i64 Jj) := (zb Ja.o 4).trans rfl
          have JbQ : wr.cell? ⟨Jb, 5, none⟩ = some (.int .i64 Ji) := (zb Ja.o 5).trans rfl
          have JbP : wr.cell? ⟨Jb, 6, none⟩ = some (.int .i64 Jh) := (zb Ja.o 6).trans rfl
          have JbO : wr.cell? ⟨Jb, 7, none⟩ = some (.int .i64 Jg) := (zb Ja.o 7).trans rfl
          have JbN : wr.cell? ⟨Jb, 8, none⟩ = some (.int .i64 Jf) := (zb Ja.o 8).trans rfl
          have JbM : wr.cell? ⟨Jb, 9, none⟩ = some (.int .i64 Jl) := (zb Ja.o 9).trans rfl
          have Dy := za Ja.o 0
          have Dx := za Ja.o 1
          have Dw := za Ja.o 2
          have Dv := za Ja.o 3
          have Du := za Ja.o 4
          have Dt := za Ja.o 5
          have Dr := za Ja.o 6
          have Dq := za Ja.o 7
          have Dp := za Ja.o 8
          have Dn := za Ja.o 9
          go_wp2
          go_ret
          exact ⟨by first | rfl | (simp [zy, zx] <;> rfl) | (simp [*, zy, zx] <;> rfl), by repeat (first | (with_reducible first | exact HB.o | apply zl | apply zf | apply zk | refine zm ?_ Jn.o) | exact HB.o)⟩
        ·rw [if_neg c39] at H
         have JdU : decide (Je ≤ 255) = false := decide_eq_false c39
         clear c39
         obtain rfl := Option.some.inj H
         have JbL : wr.cell? ⟨Jb, 0, none⟩ = some (.int .i64 Jc) := (zb Ja.o 0).trans rfl
         have JbK : wr.cell? ⟨Jb, 1, none⟩ = some (.int .i64 Je) := (zb Ja.o 1).trans rfl
         have JbJ : wr.cell? ⟨Jb, 2, none⟩ = some (.int .i64 Jd) := (zb Ja.o 2).trans rfl
         have JbI : wr.cell? ⟨Jb, 3, none⟩ = some (.int .u64 Jk) := (zb Ja.o 3).trans rfl
         have JbH : wr.cell? ⟨Jb, 4, none⟩ = some (.int .i64 Jj) := (zb Ja.o 4).trans rfl
         have JbG : wr.cell? ⟨Jb, 5, none⟩ = some (.int .i64 Ji) := (zb Ja.o 5).trans rfl
         have JbF : wr.cell? ⟨Jb, 6, none⟩ = some (.int .i64 Jh) := (zb Ja.o 6).trans rfl
         have JbE : wr.cell? ⟨Jb, 7, none⟩ = some (.int .i64 Jg) := (zb Ja.o 7).trans rfl
         have JbD : wr.cell? ⟨Jb, 8, none⟩ = some (.int .i64 Jf) := (zb Ja.o 8).trans rfl
         have JbC : wr.cell? ⟨Jb, 9, none⟩ = some (.int .i64 Jl) := (zb Ja.o 9).trans rfl
         have Dm := za Ja.o 0
         have Dl := za Ja.o 1
         have Dk := za Ja.o 2
         have Dj := za Ja.o 3
         have Di := za Ja.o 4
         have Dh := za Ja.o 5
         have Df := za Ja.o 6
         have De := za Ja.o 7
         have Dc := za Ja.o 8
         have Db := za Ja.o 9
         go_wp2
         go_ret
         exact ⟨by first | rfl | (simp [zy, zx] <;> rfl) | (simp [*, zy, zx] <;> rfl), by repeat (first | (with_reducible first | exact HB.o | apply zl | apply zf | apply zk | refine zm ?_ Jn.o) | exact HB.o)⟩
       ·rw [if_neg c38] at H
        have JdV : decide (0 ≤ Je) = false := decide_eq_false c38
        clear c38
        obtain rfl := Option.some.inj H
        have JbB : wr.cell? ⟨Jb, 0, none⟩ = some (.int .i64 Jc) := (zb Ja.o 0).trans rfl
        have JbA : wr.cell? ⟨Jb, 1, none⟩ = some (.int .i64 Je) := (zb Ja.o 1).trans rfl
        have Jbz : wr.cell? ⟨Jb, 2, none⟩ = some (.int .i64 Jd) := (zb Ja.o 2).trans rfl
        have Jby : wr.cell? ⟨Jb, 3, none⟩ = some (.int .u64 Jk) := (zb Ja.o 3).trans rfl
        have Jbx : wr.cell? ⟨Jb, 4, none⟩ = some (.int .i64 Jj) := (zb Ja.o 4).trans rfl
        have Jbw : wr.cell? ⟨Jb, 5, none⟩ = some (.int .i64 Ji) := (zb Ja.o 5).trans rfl
        have Jbv : wr.cell? ⟨Jb, 6, none⟩ = some (.int .i64 Jh) := (zb Ja.o 6).trans rfl
        have Jbu : wr.cell? ⟨Jb, 7, none⟩ = some (.int .i64 Jg) := (zb Ja.o 7).trans rfl
        have Jbt : wr.cell? ⟨Jb, 8, none⟩ = some (.int .i64 Jf) := (zb Ja.o 8).trans rfl
        have Jbs : wr.cell? ⟨Jb, 9, none⟩ = some (.int .i64 Jl) := (zb Ja.o 9).trans rfl
        have Da := za Ja.o 0
        have G9 := za Ja.o 1
        have G8 := za Ja.o 2
        have G7 := za Ja.o 3
        have G5 := za Ja.o 4
        have GZ := za Ja.o 5
        have GY := za Ja.o 6
        have GX := za Ja.o 7
        have GV := za Ja.o 8
        have GU := za Ja.o 9
        go_wp2
        go_ret
        exact ⟨by first | rfl | (simp [zy, zx] <;> rfl) | (simp [*, zy, zx] <;> rfl), by repeat (first | (with_reducible first | exact HB.o | apply zl | apply zf | apply zk | refine zm ?_ Jn.o) | exact HB.o)⟩
      ·rw [if_neg c37] at H
       have JdW : decide (Jc ≤ 3) = false := decide_eq_false c37
       clear c37
       obtain rfl := Option.some.inj H
       have Jbr : wr.cell? ⟨Jb, 0, none⟩ = some (.int .i64 Jc) := (zb Ja.o 0).trans rfl
       have Jbq : wr.cell? ⟨Jb, 1, none⟩ = some (.int .i64 Je) := (zb Ja.o 1).trans rfl
       have Jbp : wr.cell? ⟨Jb, 2, none⟩ = some (.int .i64 Jd) := (zb Ja.o 2).trans rfl
       have Jbo : wr.cell? ⟨Jb, 3, none⟩ = some (.int .u64 Jk) := (zb Ja.o 3).trans rfl
       have Jbn : wr.cell? ⟨Jb, 4, none⟩ = some (.int .i64 Jj) := (zb Ja.o 4).trans rfl
       have Jbm : wr.cell? ⟨Jb, 5, none⟩ = some (.int .i64 Ji) := (zb Ja.o 5).trans rfl
       have Jbl : wr.cell? ⟨Jb, 6, none⟩ = some (.int .i64 Jh) := (zb Ja.o 6).trans rfl
       have Jbk : wr.cell? ⟨Jb, 7, none⟩ = some (.int .i64 Jg) := (zb Ja.o 7).trans rfl
       have Jbj : wr.cell? ⟨Jb, 8, none⟩ = some (.int .i64 Jf) := (zb Ja.o 8).trans rfl
       have Jbi : wr.cell? ⟨Jb, 9, none⟩ = some (.int .i64 Jl) := (zb Ja.o 9).trans rfl
       have GR := za Ja.o 0
       have GQ := za Ja.o 1
       have GM := za Ja.o 2
       have GL := za Ja.o 3
       have GK := za Ja.o 4
       have GJ := za Ja.o 5
       have GI := za Ja.o 6
       have GH := za Ja.o 7
       have GG := za Ja.o 8
       have GD := za Ja.o 9
       go_wp2
       go_ret
       exact ⟨by first | rfl | (simp [zy, zx] <;> rfl) | (simp [*, zy, zx] <;> rfl), by repeat (first | (with_reducible first | exact HB.o | apply zl | apply zf | apply zk | refine zm ?_ Jn.o) | exact HB.o)⟩
     ·rw [if_neg c36] at H
      have JdX : decide (1 ≤ Jc) = false := decide_eq_false c36
      clear c36
      obtain rfl := Option.some.inj H
      have Jbh : wr.cell? ⟨Jb, 0, none⟩ = some (.int .i64 Jc) := (zb Ja.o 0).trans rfl
      have Jbg : wr.cell? ⟨Jb, 1, none⟩ = some (.int .i64 Je) := (zb Ja.o 1).trans rfl
      have Jbf : wr.cell? ⟨Jb, 2, none⟩ = some (.int .i64 Jd) := (zb Ja.o 2).trans rfl
      have Jbe : wr.cell? ⟨Jb, 3, none⟩ = some (.int .u64 Jk) := (zb Ja.o 3).trans rfl
      have Jbd : wr.cell? ⟨Jb, 4, none⟩ = some (.int .i64 Jj) := (zb Ja.o 4).trans rfl
      have Jbc : wr.cell? ⟨Jb, 5, none⟩ = some (.int .i64 Ji) := (zb Ja.o 5).trans rfl
      have Jbb : wr.cell? ⟨Jb, 6, none⟩ = some (.int .i64 Jh) := (zb Ja.o 6).trans rfl
      have Jba : wr.cell? ⟨Jb, 7, none⟩ = some (.int .i64 Jg) := (zb Ja.o 7).trans rfl
      have Ja9 : wr.cell? ⟨Jb, 8, none⟩ = some (.int .i64 Jf) := (zb Ja.o 8).trans rfl
      have Ja8 : wr.cell? ⟨Jb, 9, none⟩ = some (.int .i64 Jl) := (zb Ja.o 9).trans rfl
      have Gz := za Ja.o 0
      have Gy := za Ja.o 1
      have Gx := za Ja.o 2
      have Gw := za Ja.o 3
      have Gv := za Ja.o 4
      have Gu := za Ja.o 5
      have Gt := za Ja.o 6
      have Gs := za Ja.o 7
      have Gr := za Ja.o 8
      have Gq := za Ja.o 9
      go_wp2
      go_ret
      exact ⟨by first | rfl | (simp [zy, zx] <;> rfl) | (simp [*, zy, zx] <;> rfl), by repeat (first | (with_reducible first | exact HB.o | apply zl | apply zf | apply zk | refine zm ?_ Jn.o) | exact HB.o)⟩

end Go.Proofs.Ytkbhilhefnahpaa.Print
