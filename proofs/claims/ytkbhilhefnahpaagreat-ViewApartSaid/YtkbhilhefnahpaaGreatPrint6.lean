import Derived.Test.YtkbhilhefnahpaaGreatPrint0
namespace Go.Proofs.YtkbhilhefnahpaaGreat.Print
open Go.RowKit Go.Proofs.YtkbhilhefnahpaaGreatW.PrintWords Go.Proofs.YtkbhilhefnahpaaGreatW.PrintLast Go.Proofs.YtkbhilhefnahpaaGreatW.PrintMore
attribute [local go_sem] yS yR Zq Zp yH yG Zb Za   -- for this text's walks alone
set_option linter.unusedVariables false
set_option linter.unusedSimpArgs false

/-! ### cards_None: function 89 -/
def cards_None.l0 : Nat → Int → Int → Int → Int → Int → Int → Int → Int → Int → Int → Int → Option (Int × Int × Int × Int × Int × Int × Int × Int × Int × Int)
 | 0, _, _, _, _, _, _, _, _, _, _, _ => none
 | k + 1, x7, Jp, Jo, Jn, Jm, Jv, Ju, Jt, Js, Jr, Jl => if x7 < 5 then (if x7 = 0 then (cards_None.l0 k (wrap64 (x7 + 1)) Jp Jo Jn Jm (-1) Ju Jt Js Jr Jl) else (if x7 = 1 then (cards_None.l0 k (wrap64 (x7 + 1)) Jp Jo Jn Jm Jv (-1) Jt Js Jr Jl) else (if x7 = 2 then (cards_None.l0 k (wrap64 (x7 + 1)) Jp Jo Jn Jm Jv Ju (-1) Js Jr Jl) else (if x7 = 3 then (cards_None.l0 k (wrap64 (x7 + 1)) Jp Jo Jn Jm Jv Ju Jt (-1) Jr Jl) else (if x7 = 4 then (cards_None.l0 k (wrap64 (x7 + 1)) Jp Jo Jn Jm Jv Ju Jt Js (-1) Jl) else (none)))))) else (some (Jp, Jo, Jn, Jm, Jv, Ju, Jt, Js, Jr, Jl))
def cards_None.f (k : Nat) (a0 : Int) : Option (Int × Int × Int × Int × Int × Int × Int × Int × Int × Int) := cards_None.l0 k 0 0 0 0 a0 0 0 0 0 0 (-1)
set_option maxHeartbeats 8000000 in
set_option maxRecDepth 100000 in
theorem cards_None.calls (k : Nat) (a0 : Int) (r1 : Int) (r2 : Int) (r3 : Int) (r4 : Int) (r5 : Int) (r6 : Int) (r7 : Int) (r8 : Int) (r9 : Int) (r10 : Int) (w : World) (h : cards_None.f k a0 = some (r1, r2, r3, r4, r5, r6, r7, r8, r9, r10)) :
  Calls Tryz.prog 89 #[.int .u64 a0] w fun e w' => e = .returned (.agg #[.int .i64 r1, .int .i64 r2, .int .i64 r3, .int .u64 r4, .int .i64 r5, .int .i64 r6, .int .i64 r7, .int .i64 r8, .int .i64 r9, .int .i64 r10]) ∧ Below w.heap.size w w' := by
 have hu37 := Tryz.underlying37
 have HB := ze.mk (Below.refl w.heap.size w)
 have H : (cards_None.l0 k 0 0 0 0 a0 0 0 0 0 0 (-1)) = some (r1, r2, r3, r4, r5, r6, r7, r8, r9, r10) := h
 clear h
 have H' := ze.mk H
 clear H
 go_enter Tryz.func89, Tryz.ntmps89
 go_wp2_with (first | ((with_reducible refine zD (N := 2) rfl ?_); refine zC ?hg (N := 2) ?hd (cs := #[.int .i64 0, .int .i64 0, .int .i64 0, .int .u64 0, .int .i64 0, .int .i64 0, .int .i64 0, .int .i64 0, .int .i64 0, .int .i64 0]) (t := 37) ?hr ?_; (case hd => rfl); (case hg => rfl); (case hr => first | (go_simp; done) | (go_simp; rfl)); intro Jk hg w2 hbox hb; have n0_ := ze.mk (zu (by repeat (first | (with_reducible first | exact HB.o | apply zl | apply zf | apply zk) | exact HB.o)) hb); have n1_ := ze.mk (hbox); have n2_ := ze.mk ((by rw [hg]; exact (zt (by repeat (first | (with_reducible first | exact HB.o | apply zl | apply zf | apply zk) | exact HB.o))) : w.heap.size ≤ Jk)); have n3_ := ze.mk ((by rw [hg]; exact (zt (by repeat (first | (with_reducible first | exact HB.o | apply zl | apply zf | apply zk) | exact HB.o))) : w.heap.size ≤ Jk)); clear HB; have HB := n0_; have Jj := n1_; have GW170 := n2_; have Jq := n3_; clear n0_ n1_ n2_ n3_; clear hb hbox hg) | ((with_reducible refine zD (N := 3) rfl ?_); refine zC ?hg (N := 3) ?hd (cs := #[.int .i64 0, .int .i64 0, .int .i64 0, .int .u64 0, .int .i64 0, .int .i64 0, .int .i64 0, .int .i64 0, .int .i64 0, .int .i64 0]) (t := 37) ?hr ?_; (case hd => rfl); (case hg => rfl); (case hr => first | (go_simp; done) | (go_simp; rfl)); intro Jg hg w3 hbox hb; have n0_ := ze.mk (zK (g := Jk) (o := .cells #[.int .i64 0, .int .i64 0, .int .i64 0, .int .u64 0, .int .i64 0, .int .i64 0, .int .i64 0, .int .i64 0, .int .i64 0, .int .i64 0] 37 (0, 0)) (by (with_reducible repeat (first | refine zg ?_ _ | refine zi ?_ | refine zh ?_ _)); exact Jj.o) hb); have n1_ := ze.mk (zu (by repeat (first | (with_reducible first | exact HB.o | apply zl | apply zf | apply zk | refine zm ?_ Jq.o) | exact HB.o)) hb); have n2_ := ze.mk (hbox); have n3_ := ze.mk ((by rw [hg]; exact (zt (by repeat (first | (with_reducible first | exact HB.o | apply zl | apply zf | apply zk | refine zm ?_ Jq.o) | exact HB.o))) : w.heap.size ≤ Jg)); have n4_ := ze.mk ((by rw [hg]; exact (zt (by repeat (first | (with_reducible first | exact HB.o | apply zl | apply zf | apply zk | refine zm ?_ Jq.o) | exact HB.o))) : w.heap.size ≤ Jg)); have n5_ := ze.mk ((by rw [hg]; exact Nat.ne_of_lt (yL (g := Jk) (o := .cells #[.int .i64 0, .int .i64 0, .int .i64 0, .int .u64 0, .int .i64 0, .int .i64 0, .int .i64 0, .int .i64 0, .int .i64 0, .int .i64 0] 37 (0, 0)) (by (with_reducible repeat (first | refine zg ?_ _ | refine zi ?_ | refine zh ?_ _)); exact Jj.o)) : Jk ≠ Jg)); have n6_ := ze.mk ((by rw [hg]; exact Nat.ne_of_gt (yL (g := Jk) (o := .cells #[.int .i64 0, .int .i64 0, .int .i64 0, .int .u64 0, .int .i64 0, .int .i64 0, .int .i64 0, .int .i64 0, .int .i64 0, .int .i64 0] 37 (0, 0)) (by (with_reducible repeat (first | refine zg ?_ _ | refine zi ?_ | refine zh ?_ _)); exact Jj.o)) : Jg ≠ Jk)); clear Jj; clear HB; have Jj := n0_; have HB := n1_; have Ja := n2_; have GW171 := n3_; have Jw := n4_; have Jh := n5_; have Ji := n6_; clear n0_ n1_ n2_ n3_ n4_ n5_ n6_; clear hb hbox hg; have hnb4 := Ji.o; have hnc4 := Jh.o; have JS : w3.cell? ⟨Jg, 0, none⟩ = some (.int .i64 0) := (zb Ja.o 0).trans rfl; have JR : w3.cell? ⟨Jg, 1, none⟩ = some (.int .i64 0) := (zb Ja.o 1).trans rfl; have JQ : w3.cell? ⟨Jg, 2, none⟩ = some (.int .i64 0) := (zb Ja.o 2).trans rfl; have JP : w3.cell? ⟨Jg, 3, none⟩ = some (.int .u64 0) := (zb Ja.o 3).trans rfl; have JO : w3.cell? ⟨Jg, 4, none⟩ = some (.int .i64 0) := (zb Ja.o 4).trans rfl; have JN : w3.cell? ⟨Jg, 5, none⟩ = some (.int .i64 0) := (zb Ja.o 5).trans rfl; have JM : w3.cell? ⟨Jg, 6, none⟩ = some (.int .i64 0) := (zb Ja.o 6).trans rfl; have JL : w3.cell? ⟨Jg, 7, none⟩ = some (.int .i64 0) := (zb Ja.o 7).trans rfl; have JK : w3.cell? ⟨Jg, 8, none⟩ = some (.int .i64 0) := (zb Ja.o 8).trans rfl; have JJ : w3.cell? ⟨Jg, 9, none⟩ = some (.int .i64 0) := (zb Ja.o 9).trans rfl; have JI := za Ja.o 0; have JH := za Ja.o 1; have JG := za Ja.o 2; have JF := za Ja.o 3; have JE := za Ja.o 4; have JD := za Ja.o 5; have JC := za Ja.o 6; have JB := za Ja.o 7; have JA := za Ja.o 8; have Jz := za Ja.o 9) | ((with_reducible refine zJ (t := 37) (p := 3) rfl ?_); refine zH (t := 37) (p := 3) (v := ?vo_w6) (w1 := ((((((((((w3.setCell ⟨Jg, 0, none⟩ (.int .i64 0)).setCell ⟨Jg, 1, none⟩ (.int .i64 0)).setCell ⟨Jg, 2, none⟩ (.int .i64 0)).setCell ⟨Jg, 3, none⟩ (.int .u64 a0)).setCell ⟨Jg, 4, none⟩ (.int .i64 0)).setCell ⟨Jg, 5, none⟩ (.int .i64 0)).setCell ⟨Jg, 6, none⟩ (.int .i64 0)).setCell ⟨Jg, 7, none⟩ (.int .i64 0)).setCell ⟨Jg, 8, none⟩ (.int .i64 0)).setCell ⟨Jg, 9, none⟩ (.int .i64 (-1)))) ?hg ?ho ?hn ?hr ?_; (case ho => rfl); (case hg => rfl); (case hn => rfl); (case hr => exact zM rfl rfl rfl (zP (P := Tryz.prog) (o := 0) (cur := #[.int .i64 0, .int .i64 0, .int .i64 0, .int .u64 0, .int .i64 0, .int .i64 0, .int .i64 0, .int .i64 0, .int .i64 0, .int .i64 0]) 37 (.agg #[.int .i64 0, .int .i64 0, .int .i64 0, .int .u64 a0, .int .i64 0, .int .i64 0, .int .i64 0, .int .i64 0, .int .i64 0, .int .i64 (-1)]) [.int .i64 0, .int .i64 0, .int .i64 0, .int .u64 a0, .int .i64 0, .int .i64 0, .int .i64 0, .int .i64 0, .int .i64 0, .int .i64 (-1)] (show _ = some (Obj.cells #[.int .i64 0, .int .i64 0, .int .i64 0, .int .u64 0, .int .i64 0, .int .i64 0, .int .i64 0, .int .i64 0, .int .i64 0, .int .i64 0] 37 (0, 0)) from (by (with_reducible repeat (first | refine zg ?_ _ | refine zi ?_ | refine zh ?_ _)); exact Ja.o)) rfl (by kernel_rfl) (show 10 ≤ 10 by decide) (by intro q_ hq_; simp only [List.mem_cons, List.not_mem_nil, or_false] at hq_; rcases hq_ with rfl | rfl | rfl | rfl | rfl | rfl | rfl | rfl | rfl | rfl <;> rfl))); intro w6 hw; have n0_ : ze (w6.heap[Jk]? = some (.cells #[.int .i64 0, .int .i64 0, .int .i64 0, .int .u64 0, .int .i64 0, .int .i64 0, .int .i64 0, .int .i64 0, .int .i64 0, .int .i64 0] 37 (0, 0))) := ⟨(by rw [hw]; exact (by (with_reducible repeat (first | refine zg ?_ _ | refine zi ?_ | refine zh ?_ _)); refine zB ?_ Jh.o _; (with_reducible repeat (first | refine zg ?_ _ | refine zi ?_ | refine zh ?_ _)); refine zB ?_ Jh.o _; (with_reducible repeat (first | refine zg ?_ _ | refine zi ?_ | refine zh ?_ _)); refine zB ?_ Jh.o _; (with_reducible repeat (first | refine zg ?_ _ | refine zi ?_ | refine zh ?_ _)); refine zB ?_ Jh.o _; (with_reducible repeat (first | refine zg ?_ _ | refine zi ?_ | refine zh ?_ _)); refine zB ?_ Jh.o _; (with_reducible repeat (first | refine zg ?_ _ | refine zi ?_ | refine zh ?_ _)); refine zB ?_ Jh.o _; (with_reducible repeat (first | refine zg ?_ _ | refine zi ?_ | refine zh ?_ _)); refine zB ?_ Jh.o _; (with_reducible repeat (first | refine zg ?_ _ | refine zi ?_ | refine zh ?_ _)); refine zB ?_ Jh.o _; (with_reducible repeat (first | refine zg ?_ _ | refine zi ?_ | refine zh ?_ _)); refine zB ?_ Jh.o _; (with_reducible repeat (first | refine zg ?_ _ | refine zi ?_ | refine zh ?_ _)); refine zB ?_ Jh.o _; (with_reducible repeat (first | refine zg ?_ _ | refine zi ?_ | refine zh ?_ _)); exact Jj.o))⟩; have n1_ : ze (w6.heap[Jg]? = some (.cells #[.int .i64 0, .int .i64 0, .int .i64 0, .int .u64 a0, .int .i64 0, .int .i64 0, .int .i64 0, .int .i64 0, .int .i64 0, .int .i64 (-1)] 37 (0, 0))) := ⟨(by rw [hw]; exact (by (with_reducible repeat (first | refine zg ?_ _ | refine zi ?_ | refine zh ?_ _)); refine zq (cs := #[.int .i64 0, .int .i64 0, .int .i64 0, .int .u64 a0, .int .i64 0, .int .i64 0, .int .i64 0, .int .i64 0, .int .i64 0, .int .i64 0]) ?_ 9 _ rfl; (with_reducible repeat (first | refine zg ?_ _ | refine zi ?_ | refine zh ?_ _)); refine zq (cs := #[.int .i64 0, .int .i64 0, .int .i64 0, .int .u64 a0, .int .i64 0, .int .i64 0, .int .i64 0, .int .i64 0, .int .i64 0, .int .i64 0]) ?_ 8 _ rfl; (with_reducible repeat (first | refine zg ?_ _ | refine zi ?_ | refine zh ?_ _)); refine zq (cs := #[.int .i64 0, .int .i64 0, .int .i64 0, .int .u64 a0, .int .i64 0, .int .i64 0, .int .i64 0, .int .i64 0, .int .i64 0, .int .i64 0]) ?_ 7 _ rfl; (with_reducible repeat (first | refine zg ?_ _ | refine zi ?_ | refine zh ?_ _)); refine zq (cs := #[.int .i64 0, .int .i64 0, .int .i64 0, .int .u64 a0, .int .i64 0, .int .i64 0, .int .i64 0, .int .i64 0, .int .i64 0, .int .i64 0]) ?_ 6 _ rfl; (with_reducible repeat (first | refine zg ?_ _ | refine zi ?_ | refine zh ?_ _)); refine zq (cs := #[.int .i64 0, .int .i64 0, .int .i64 0, .int .u64 a0, .int .i64 0, .int .i64 0, .int .i64 0, .int .i64 0, .int .i64 0, .int .i64 0]) ?_ 5 _ rfl; (with_reducible repeat (first | refine zg ?_ _ | refine zi ?_ | refine zh ?_ _)); refine zq (cs := #[.int .i64 0, .int .i64 0, .int .i64 0, .int .u64 a0, .int .i64 0, .int .i64 0, .int .i64 0, .int .i64 0, .int .i64 0, .int .i64 0]) ?_ 4 _ rfl; (with_reducible repeat (first | refine zg ?_ _ | refine zi ?_ | refine zh ?_ _)); refine zq (cs := #[.int .i64 0, .int .i64 0, .int .i64 0, .int .u64 0, .int .i64 0, .int .i64 0, .int .i64 0, .int .i64 0, .int .i64 0, .int .i64 0]) ?_ 3 _ rfl; (with_reducible repeat (first | refine zg ?_ _ | refine zi ?_ | refine zh ?_ _)); refine zq (cs := #[.int .i64 0, .int .i64 0, .int .i64 0, .int .u64 0, .int .i64 0, .int .i64 0, .int .i64 0, .int .i64 0, .int .i64 0, .int .i64 0]) ?_ 2 _ rfl; (with_reducible repeat (first | refine zg ?_ _ | refine zi ?_ | refine zh ?_ _)); refine zq (cs := #[.int .i64 0, .int .i64 0, .int .i64 0, .int .u64 0, .int .i64 0, .int .i64 0, .int .i64 0, .int .i64 0, .int .i64 0, .int .i64 0]) ?_ 1 _ rfl; (with_reducible repeat (first | refine zg ?_ _ | refine zi ?_ | refine zh ?_ _)); refine zq (cs := #[.int .i64 0, .int .i64 0, .int .i64 0, .int .u64 0, .int .i64 0, .int .i64 0, .int .i64 0, .int .i64 0, .int .i64 0, .int .i64 0]) ?_ 0 _ rfl; (with_reducible repeat (first | refine zg ?_ _ | refine zi ?_ | refine zh ?_ _)); exact Ja.o))⟩; have n2_ : ze (Below w.heap.size w w6) := ⟨(by rw [hw]; exact (by repeat (first | (with_reducible first | exact HB.o | apply zl | apply zf | apply zk | refine zm ?_ Jq.o | refine zm ?_ Jw.o) | exact HB.o)))⟩; clear hw; clear Jj; clear Ja; clear HB; have Jj := n0_; have Ja := n1_; have HB := n2_; clear n0_ n1_ n2_))
 go_loopg [7] k (fun kq v7 w' => ∃ (Jy : Int) (Jb : Int) (Jc : Int) (Jd : Int) (Je : Int) (Jf : Int), v7 = .int .i64 Jy ∧ ze (cards_None.l0 kq Jy 0 0 0 a0 Jb Jc Jd Je Jf (-1) = some (r1, r2, r3, r4, r5, r6, r7, r8, r9, r10)) ∧ ze (kq ≤ k) ∧ ze (w'.heap[Jk]? = some (.cells #[.int .i64 0, .int .i64 0, .int .i64 0, .int .u64 0, .int .i64 0, .int .i64 0, .int .i64 0, .int .i64 0, .int .i64 0, .int .i64 0] 37 (0, 0))) ∧ ze (w'.heap[Jg]? = some (.cells #[.int .i64 0, .int .i64 0, .int .i64 0, .int .u64 a0, .int .i64 Jb, .int .i64 Jc, .int .i64 Jd, .int .i64 Je, .int .i64 Jf, .int .i64 (-1)] 37 (0, 0))) ∧ ze (Below w.heap.size w w'))
 case atStart => exact ⟨(0), (0), (0), (0), (0), (0), (by first | rfl | (simp; done) | (simp [*]; done) | kernel_rfl), H', ⟨Nat.le_refl _⟩, ⟨by (with_reducible repeat (first | refine zg ?_ _ | refine zi ?_ | refine zh ?_ _)); exact Jj.o⟩, ⟨by (with_reducible repeat (first | refine zg ?_ _ | refine zi ?_ | refine zh ?_ _)); exact Ja.o⟩, ⟨by repeat (first | (with_reducible first | exact HB.o | apply zl | apply zf | apply zk | refine zm ?_ Jq.o | refine zm ?_ Jw.o) | exact HB.o)⟩⟩
 case round =>
  clear H'
  try clear p2
  try clear c4
  try clear JS
  try clear JR
  try clear JQ
  try clear JP
  try clear JO
  try clear JN
  try clear JM
  try clear JL
  try clear JK
  try clear JJ
  try clear JI
  try clear JH
  try clear JG
  try clear JF
  try clear JE
  try clear JD
  try clear JC
  try clear JB
  try clear JA
  try clear Jz
  obtain ⟨Jy, Jb, Jc, Jd, Je, Jf, rfl, HA, HK1, Jj, Ja, HB⟩ := hrel
  cases gk with
  | zero => exact absurd HA.o (by simp [cards_None.l0])
  | succ k1 =>
   have H := HA.o
   clear HA
   simp only [cards_None.l0] at H
   by_cases c7 : Jy < 5
   ·rw [if_pos c7] at H
    have c7b0 : decide (Jy < 5) = true := decide_eq_true c7
    clear c7
    by_cases c8 : Jy = 0
    ·subst c8
     have H1 : (cards_None.l0 k1 (wrap64 (0 + 1)) 0 0 0 a0 (-1) Jc Jd Je Jf (-1)) = some (r1, r2, r3, r4, r5, r6, r7, r8, r9, r10) := by rw [if_pos rfl] at H; exact H
     clear H
     have H := H1
     clear H1
     have H' := ze.mk H
     clear H
     have hnb9 := Ji.o
     have hnc9 := Jh.o
     have Jag : wr.cell? ⟨Jg, 0, none⟩ = some (.int .i64 0) := (zb Ja.o 0).trans rfl
     have Jaf : wr.cell? ⟨Jg, 1, none⟩ = some (.int .i64 0) := (zb Ja.o 1).trans rfl
     have Jae : wr.cell? ⟨Jg, 2, none⟩ = some (.int .i64 0) := (zb Ja.o 2).trans rfl
     have Jad : wr.cell? ⟨Jg, 3, none⟩ = some (.int .u64 a0) := (zb Ja.o 3).trans rfl
     have Jac : wr.cell? ⟨Jg, 4, none⟩ = some (.int .i64 Jb) := (zb Ja.o 4).trans rfl
     have Jab : wr.cell? ⟨Jg, 5, none⟩ = some (.int .i64 Jc) := (zb Ja.o 5).trans rfl
     have Jaa : wr.cell? ⟨Jg, 6, none⟩ = some (.int .i64 Jd) := (zb Ja.o 6).trans rfl
     have BZ : wr.cell? ⟨Jg, 7, none⟩ = some (.int .i64 Je) := (zb Ja.o 7).trans rfl
     have BX : wr.cell? ⟨Jg, 8, none⟩ = some (.int .i64 Jf) := (zb Ja.o 8).trans rfl
     have BV : wr.cell? ⟨Jg, 9, none⟩ = some (.int .i64 (-1)) := (zb Ja.o 9).trans rfl
     have Dr := za Ja.o 0
     have Dq := za Ja.o 1
     have Dp := za Ja.o 2
     have Dn := za Ja.o 3
     have Dm := za Ja.o 4
     have Dl := za Ja.o 5
     have Dk := za Ja.o 6
     have Dj := za Ja.o 7
     have Di := za Ja.o 8
     have Dh := za Ja.o 9
     go_wp2
     go_roundg k1
     case measure => have := HK1.o; omega
     case rel => exact ⟨(wrap64 (0 + 1)), ((-1)), (Jc), (Jd), (Je), (Jf), (by first | rfl | (simp; done) | (simp [*]; done) | kernel_rfl), H', ⟨by have := HK1.o; omega⟩, ⟨by (with_reducible repeat (first | refine zg ?_ _ | refine zi ?_ | refine zh ?_ _)); refine zB ?_ Jh.o _; (with_reducible repeat (first | refine zg ?_ _ | refine zi ?_ | refine zh ?_ _)); exact Jj.o⟩, ⟨by (with_reducible repeat (first | refine zg ?_ _ | refine zi ?_ | refine zh ?_ _)); refine zq (cs := #[.int .i64 0, .int .i64 0, .int .i64 0, .int .u64 a0, .int .i64 Jb, .int .i64 Jc, .int .i64 Jd, .int .i64 Je, .int .i64 Jf, .int .i64 (-1)]) ?_ 4 _ rfl; (with_reducible repeat (first | refine zg ?_ _ | refine zi ?_ | refine zh ?_ _)); exact Ja.o⟩, ⟨by repeat (first | (with_reducible first | exact HB.o | apply zl | apply zf | apply zk | refine zm ?_ Jq.o | refine zm ?_ Jw.o) | exact HB.o)⟩⟩
    ·rw [if_neg c8] at H
     by_cases c11 : Jy = 1
     ·subst c11
      have H1 : (cards_None.l0 k1 (wrap64 (1 + 1)) 0 0 0 a0 Jb (-1) Jd Je Jf (-1)) = some (r1, r2, r3, r4, r5, r6, r7, r8, r9, r10) := by rw [if_pos rfl] at H; exact H
      clear H
      have H := H1
      clear H1
      have H' := ze.mk H
      clear H
      have hnb12 := Ji.o
      have hnc12 := Jh.o
      have BU : wr.cell? ⟨Jg, 0, none⟩ = some (.int .i64 0) := (zb Ja.o 0).trans rfl
      have BS : wr.cell? ⟨Jg, 1, none⟩ = some (.int .i64 0) := (zb Ja.o 1).trans rfl
      have BR : wr.cell? ⟨Jg, 2, none⟩ = some (.int .i64 0) := (zb Ja.o 2).trans rfl
      have BQ : wr.cell? ⟨Jg, 3, none⟩ = some (.int .u64 a0) := (zb Ja.o 3).trans rfl
      have BP : wr.cell? ⟨Jg, 4, none⟩ = some (.int .i64 Jb) := (zb Ja.o 4).trans rfl
      have BO : wr.cell? ⟨Jg, 5, none⟩ = some (.int .i64 Jc) := (zb Ja.o 5).trans rfl
      have BM : wr.cell? ⟨Jg, 6, none⟩ = some (.int .i64 Jd) := (zb Ja.o 6).trans rfl
      have BL : wr.cell? ⟨Jg, 7, none⟩ = some (.int .i64 Je) := (zb Ja.o 7).trans rfl
      have BJ : wr.cell? ⟨Jg, 8, none⟩ = some (.int .i64 Jf) := (zb Ja.o 8).trans rfl
      have BI : wr.cell? ⟨Jg, 9, none⟩ = some (.int .i64 (-1)) := (zb Ja.o 9).trans rfl
      have Df := za Ja.o 0
      have Dc := za Ja.o 1
      have Db := za Ja.o 2
      have Da := za Ja.o 3
      have G9 := za Ja.o 4
      have G8 := za Ja.o 5
      have G7 := za Ja.o 6
      have G5 := za Ja.o 7
      have GZ := za Ja.o 8
      have GY := za Ja.o 9
      go_wp2
      go_roundg k1
      case measure => have := HK1.o; omega
      case rel => exact ⟨(wrap64 (1 + 1)), (Jb), ((-1)), (Jd), (Je), (Jf), (by first | rfl | (simp; done) | (simp [*]; done) | kernel_rfl), H', ⟨by have := HK1.o; omega⟩, ⟨by (with_reducible repeat (first | refine zg ?_ _ | refine zi ?_ | refine zh ?_ _)); refine zB ?_ Jh.o _; (with_reducible repeat (first | refine zg ?_ _ | refine zi ?_ | refine zh ?_ _)); exact Jj.o⟩, ⟨by (with_reducible repeat (first | refine zg ?_ _ | refine zi ?_ | refine zh ?_ _)); refine zq (cs := #[.int .i64 0, .int .i64 0, .int .i64 0, .int .u64 a0, .int .i64 Jb, .int .i64 Jc, .int .i64 Jd, .int .i64 Je, .int .i64 Jf, .int .i64 (-1)]) ?_ 5 _ rfl; (with_reducible repeat (first | refine zg ?_ _ | refine zi ?_ | refine zh ?_ _)); exact Ja.o⟩, ⟨by repeat (first | (with_reducible first | exact HB.o | apply zl | apply zf | apply zk | refine zm ?_ Jq.o | refine zm ?_ Jw.o) | exact HB.o)⟩⟩
     ·rw [if_neg c11] at H
      by_cases c14 : Jy = 2
      ·subst c14
       have H1 : (cards_None.l0 k1 (wrap64 (2 + 1)) 0 0 0 a0 Jb Jc (-1) Je Jf (-1)) = some (r1, r2, r3, r4, r5, r6, r7, r8, r9, r10) := by rw [if_pos rfl] at H; exact H
       clear H
       have H := H1
       clear H1
       have H' := ze.mk H
       clear H
       have hnb15 := Ji.o
       have hnc15 := Jh.o
       have BH : wr.cell? ⟨Jg, 0, none⟩ = some (.int .i64 0) := (zb Ja.o 0).trans rfl
       have BG : wr.cell? ⟨Jg, 1, none⟩ = some (.int .i64 0) := (zb Ja.o 1).trans rfl
       have BF : wr.cell? ⟨Jg, 2, none⟩ = some (.int .i64 0) := (zb Ja.o 2).trans rfl
       have BD : wr.cell? ⟨Jg, 3, none⟩ = some (.int .u64 a0) := (zb Ja.o 3).trans rfl
       have BC : wr.cell? ⟨Jg, 4, none⟩ = some (.int .i64 Jb) := (zb Ja.o 4).trans rfl
       have BA : wr.cell? ⟨Jg, 5, none⟩ = some (.int .i64 Jc) := (zb Ja.o 5).trans rfl
       have Bz : wr.cell? ⟨Jg, 6, none⟩ = some (.int .i64 Jd) := (zb Ja.o 6).trans rfl
       have Bw : wr.cell? ⟨Jg, 7, none⟩ = some (.int .i64 Je) := (zb Ja.o 7).trans rfl
       have Bv : wr.cell? ⟨Jg, 8, none⟩ = some (.int .i64 Jf) := (zb Ja.o 8).trans rfl
       have Bu : wr.cell? ⟨Jg, 9, none⟩ = some (.int .i64 (-1)) := (zb Ja.o 9).trans rfl
       have GX := za Ja.o 0
       have GV := za Ja.o 1
       have GU := za Ja.o 2
       have GR := za Ja.o 3
       have GQ := za Ja.o 4
       have GM := za Ja.o 5
       have GL := za Ja.o 6
       have GK := za Ja.o 7
       have GJ := za Ja.o 8
       have GI := za Ja.o 9
       go_wp2
       go_roundg k1
       case measure => have := HK1.o; omega
       case rel => exact ⟨(wrap64 (2 + 1)), (Jb), (Jc), ((-1)), (Je), (Jf), (by first | rfl | (simp; done) | (simp [*]; done) | kernel_rfl), H', ⟨by have := HK1.o; omega⟩, ⟨by (with_reducible repeat (first | refine zg ?_ _ | refine zi ?_ | refine zh ?_ _)); refine zB ?_ Jh.o _; (with_reducible repeat (first | refine zg ?_ _ | refine zi ?_ | refine zh ?_ _)); exact Jj.o⟩, ⟨by (with_reducible repeat (first | refine zg ?_ _ | refine zi ?_ | refine zh ?_ _)); refine zq (cs := #[.int .i64 0, .int .i64 0, .int .i64 0, .int .u64 a0, .int .i64 Jb, .int .i64 Jc, .int .i64 Jd, .int .i64 Je, .int .i64 Jf, .int .i64 (-1)]) ?_ 6 _ rfl; (with_reducible repeat (first | refine zg ?_ _ | refine zi ?_ | refine zh ?_ _)); exact Ja.o⟩, ⟨by repeat (first | (with_reducible first | exact HB.o | apply zl | apply zf | apply zk | refine zm ?_ Jq.o | refine zm ?_ Jw.o) | exact HB.o)⟩⟩
      ·rw [if_neg c14] at H
       by_cases c17 : Jy = 3
       ·subst c17
        have H1 : (cards_None.l0 k1 (wrap64 (3 + 1)) 0 0 0 a0 Jb Jc Jd (-1) Jf (-1)) = some (r1, r2, r3, r4, r5, r6, r7, r8, r9, r10) := by rw [if_pos rfl] at H; exact H
        clear H
        have H := H1
        clear H1
        have H' := ze.mk H
        clear H
        have hnb18 := Ji.o
        have hnc18 := Jh.o
        have Bt : wr.cell? ⟨Jg, 0, none⟩ = some (.int .i64 0) := (zb Ja.o 0).trans rfl
        have Br : wr.cell? ⟨Jg, 1, none⟩ = some (.int .i64 0) := (zb Ja.o 1).trans rfl
        have Bq : wr.cell? ⟨Jg, 2, none⟩ = some (.int .i64 0) := (zb Ja.o 2).trans rfl
        have Bp : wr.cell? ⟨Jg, 3, none⟩ = some (.int .u64 a0) := (zb Ja.o 3).trans rfl
        have Bo : wr.cell? ⟨Jg, 4, none⟩ = some (.int .i64 Jb) := (zb Ja.o 4).trans rfl
        have Bn : wr.cell? ⟨Jg, 5, none⟩ = some (.int .i64 Jc) := (zb Ja.o 5).trans rfl
        have Bl : wr.cell? ⟨Jg, 6, none⟩ = some (.int .i64 Jd) := (zb Ja.o 6).trans rfl
        have Bj : wr.cell? ⟨Jg, 7, none⟩ = some (.int .i64 Je) := (zb Ja.o 7).trans rfl
        have Bi : wr.cell? ⟨Jg, 8, none⟩ = some (.int .i64 Jf) := (zb Ja.o 8).trans rfl
        have Bh : wr.cell? ⟨Jg, 9, none⟩ = some (.int .i64 (-1)) := (zb Ja.o 9).trans rfl
        have GH := za Ja.o 0
        have GG := za Ja.o 1
        have GD := za Ja.o 2
        have Gz := za Ja.o 3
        have Gy := za Ja.o 4
        have Gx := za Ja.o 5
        have Gw := za Ja.o 6
        have Gv := za Ja.o 7
        have Gu := za Ja.o 8
        have Gt := za Ja.o 9
        go_wp2
        go_roundg k1
        case measure => have := HK1.o; omega
        case rel => exact ⟨(wrap64 (3 + 1)), (Jb), (Jc), (Jd), ((-1)), (Jf), (by first | rfl | (simp; done) | (simp [*]; done) | kernel_rfl), H', ⟨by have := HK1.o; omega⟩, ⟨by (with_reducible repeat (first | refine zg ?_ _ | refine zi ?_ | refine zh ?_ _)); refine zB ?_ Jh.o _; (with_reducible repeat (first | refine zg ?_ _ | refine zi ?_ | refine zh ?_ _)); exact Jj.o⟩, ⟨by (with_reducible repeat (first | refine zg ?_ _ | refine zi ?_ | refine zh ?_ _)); refine zq (cs := #[.int .i64 0, .int .i64 0, .int .i64 0, .int .u64 a0, .int .i64 Jb, .int .i64 Jc, .int .i64 Jd, .int .i64 Je, .int .i64 Jf, .int .i64 (-1)]) ?_ 7 _ rfl; (with_reducible repeat (first | refine zg ?_ _ | refine zi ?_ | refine zh ?_ _)); exact Ja.o⟩, ⟨by repeat (first | (with_reducible first | exact HB.o | apply zl | apply zf | apply zk | refine zm ?_ Jq.o | refine zm ?_ Jw.o) | exact HB.o)⟩⟩
       ·rw [if_neg c17] at H
        by_cases c20 : Jy = 4
        ·subst c20
         have H1 : (cards_None.l0 k1 (wrap64 (4 + 1)) 0 0 0 a0 Jb Jc Jd Je (-1) (-1)) = some (r1, r2, r3, r4, r5, r6, r7, r8, r9, r10) := by rw [if_pos rfl] at H; exact H
         clear H
         have H := H1
         clear H1
         have H' := ze.mk H
         clear H
         have hnb21 := Ji.o
         have hnc21 := Jh.o
         have Bg : wr.cell? ⟨Jg, 0, none⟩ = some (.int .i64 0) := (zb Ja.o 0).trans rfl
         have Bf : wr.cell? ⟨Jg, 1, none⟩ = some (.int .i64 0) := (zb Ja.o 1).trans rfl
         have Be : wr.cell? ⟨Jg, 2, none⟩ = some (.int .i64 0) := (zb Ja.o 2).trans rfl
         have Bd : wr.cell? ⟨Jg, 3, none⟩ = some (.int .u64 a0) := (zb Ja.o 3).trans rfl
         have Bc : wr.cell? ⟨Jg, 4, none⟩ = some (.int .i64 Jb) := (zb Ja.o 4).trans rfl
         have D7 : wr.cell? ⟨Jg, 5, none⟩ = some (.int .i64 Jc) := (zb Ja.o 5).trans rfl
         have D6 : wr.cell? ⟨Jg, 6, none⟩ = some (.int .i64 Jd) := (zb Ja.o 6).trans rfl
         have D5 : wr.cell? ⟨Jg, 7, none⟩ = some (.int .i64 Je) := (zb Ja.o 7).trans rfl
         have DZ : wr.cell? ⟨Jg, 8, none⟩ = some (.int .i64 Jf) := (zb Ja.o 8).trans rfl
         have DY : wr.cell? ⟨Jg, 9, none⟩ = some (.int .i64 (-1)) := (zb Ja.o 9).trans rfl
         have Gs := za Ja.o 0
         have Gr := za Ja.o 1
         have Gq := za Ja.o 2
         have Gp := za Ja.o 3
         have Gn := za Ja.o 4
         have Gm := za Ja.o 5
         have Gl := za Ja.o 6
         have Gj := za Ja.o 7
         have Gi := za Ja.o 8
         have Gh := za Ja.o 9
         go_wp2
         go_roundg k1
         case measure => have := HK1.o; omega
         case rel => exact ⟨(wrap64 (4 + 1)), (Jb), (Jc), (Jd), (Je), ((-1)), (by first | rfl | (simp; done) | (simp [*]; done) | kernel_rfl), H', ⟨by have := HK1.o; omega⟩, ⟨by (with_reducible repeat (first | refine zg ?_ _ | refine zi ?_ | refine zh ?_ _)); refine zB ?_ Jh.o _; (with_reducible repeat (first | refine zg ?_ _ | refine zi ?_ | refine zh ?_ _)); exact Jj.o⟩, ⟨by (with_reducible repeat (first | refine zg ?_ _ | refine zi ?_ | refine zh ?_ _)); refine zq (cs := #[.int .i64 0, .int .i64 0, .int .i64 0, .int .u64 a0, .int .i64 Jb, .int .i64 Jc, .int .i64 Jd, .int .i64 Je, .int .i64 Jf, .int .i64 (-1)]) ?_ 8 _ rfl; (with_reducible repeat (first | refine zg ?_ _ | refine zi ?_ | refine zh ?_ _)); exact Ja.o⟩, ⟨by repeat (first | (with_reducible first | exact HB.o | apply zl | apply zf | apply zk | refine zm ?_ Jq.o | refine zm ?_ Jw.o) | exact HB.o)⟩⟩
        ·rw [if_neg c20] at H
         exact absurd H (by simp)
   ·rw [if_neg c7] at H
    have c7b0 : decide (Jy < 5) = false := decide_eq_false c7
    clear c7
    simp only [Option.some.injEq, Prod.mk.injEq] at H
    obtain ⟨rfl, rfl, rfl, rfl, rfl, rfl, rfl, rfl, rfl, rfl⟩ := H
    have hnb23 := Ji.o
    have hnc23 := Jh.o
    have DW : wr.cell? ⟨Jg, 0, none⟩ = some (.int .i64 0) := (zb Ja.o 0).trans rfl
    have DV : wr.cell? ⟨Jg, 1, none⟩ = some (.int .i64 0) := (zb Ja.o 1).trans rfl
    have DU : wr.cell? ⟨Jg, 2, none⟩ = some (.int .i64 0) := (zb Ja.o 2).trans rfl
    have DT : wr.cell? ⟨Jg, 3, none⟩ = some (.int .u64 a0) := (zb Ja.o 3).trans rfl
    have DR : wr.cell? ⟨Jg, 4, none⟩ = some (.int .i64 Jb) := (zb Ja.o 4).trans rfl
    have DN : wr.cell? ⟨Jg, 5, none⟩ = some (.int .i64 Jc) := (zb Ja.o 5).trans rfl
    have DL : wr.cell? ⟨Jg, 6, none⟩ = some (.int .i64 Jd) := (zb Ja.o 6).trans rfl
    have DK : wr.cell? ⟨Jg, 7, none⟩ = some (.int .i64 Je) := (zb Ja.o 7).trans rfl
    have DJ : wr.cell? ⟨Jg, 8, none⟩ = some (.int .i64 Jf) := (zb Ja.o 8).trans rfl
    have DI : wr.cell? ⟨Jg, 9, none⟩ = some (.int .i64 (-1)) := (zb Ja.o 9).trans rfl
    have Gg := za Ja.o 0
    have Gf := za Ja.o 1
    have Gd := za Ja.o 2
    have Gc := za Ja.o 3
    have Gb := za Ja.o 4
    have Ga := za Ja.o 5
    have J9 := za Ja.o 6
    have J8 := za Ja.o 7
    have J7 := za Ja.o 8
    have J6 := za Ja.o 9
    have DF : wr.cell? ⟨Jk, 0, none⟩ = some (.int .i64 0) := (zb Jj.o 0).trans rfl
    have DD : wr.cell? ⟨Jk, 1, none⟩ = some (.int .i64 0) := (zb Jj.o 1).trans rfl
    have DC : wr.cell? ⟨Jk, 2, none⟩ = some (.int .i64 0) := (zb Jj.o 2).trans rfl
    have Dz : wr.cell? ⟨Jk, 3, none⟩ = some (.int .u64 0) := (zb Jj.o 3).trans rfl
    have Dy : wr.cell? ⟨Jk, 4, none⟩ = some (.int .i64 0) := (zb Jj.o 4).trans rfl
    have Dx : wr.cell? ⟨Jk, 5, none⟩ = some (.int .i64 0) := (zb Jj.o 5).trans rfl
    have Dw : wr.cell? ⟨Jk, 6, none⟩ = some (.int .i64 0) := (zb Jj.o 6).trans rfl
    have Dv : wr.cell? ⟨Jk, 7, none⟩ = some (.int .i64 0) := (zb Jj.o 7).trans rfl
    have Du : wr.cell? ⟨Jk, 8, none⟩ = some (.int .i64 0) := (zb Jj.o 8).trans rfl
    have Dt : wr.cell? ⟨Jk, 9, none⟩ = some (.int .i64 0) := (zb Jj.o 9).trans rfl
    have J5 := za Jj.o 0
    have J4 := za Jj.o 1
    have J3 := za Jj.o 2
    have J2 := za Jj.o 3
    have JZ := za Jj.o 4
    have JY := za Jj.o 5
    have JX := za Jj.o 6
    have JW := za Jj.o 7
    have JV := za Jj.o 8
    have JU := za Jj.o 9
    go_wp2_with (first | ((with_reducible refine zJ (t := 37) (p := 2) rfl ?_); refine zH (t := 37) (p := 2) (v := ?vo_w26) (w1 := ((((((((((wr.setCell ⟨Jk, 0, none⟩ (.int .i64 0)).setCell ⟨Jk, 1, none⟩ (.int .i64 0)).setCell ⟨Jk, 2, none⟩ (.int .i64 0)).setCell ⟨Jk, 3, none⟩ (.int .u64 a0)).setCell ⟨Jk, 4, none⟩ (.int .i64 Jb)).setCell ⟨Jk, 5, none⟩ (.int .i64 Jc)).setCell ⟨Jk, 6, none⟩ (.int .i64 Jd)).setCell ⟨Jk, 7, none⟩ (.int .i64 Je)).setCell ⟨Jk, 8, none⟩ (.int .i64 Jf)).setCell ⟨Jk, 9, none⟩ (.int .i64 (-1)))) ?hg ?ho ?hn ?hr ?_; (case ho => rfl); (case hg => rfl); (case hn => rfl); (case hr => exact zM rfl rfl rfl (zP (P := Tryz.prog) (o := 0) (cur := #[.int .i64 0, .int .i64 0, .int .i64 0, .int .u64 0, .int .i64 0, .int .i64 0, .int .i64 0, .int .i64 0, .int .i64 0, .int .i64 0]) 37 (.agg #[.int .i64 0, .int .i64 0, .int .i64 0, .int .u64 a0, .int .i64 Jb, .int .i64 Jc, .int .i64 Jd, .int .i64 Je, .int .i64 Jf, .int .i64 (-1)]) [.int .i64 0, .int .i64 0, .int .i64 0, .int .u64 a0, .int .i64 Jb, .int .i64 Jc, .int .i64 Jd, .int .i64 Je, .int .i64 Jf, .int .i64 (-1)] (show _ = some (Obj.cells #[.int .i64 0, .int .i64 0, .int .i64 0, .int .u64 0, .int .i64 0, .int .i64 0, .int .i64 0, .int .i64 0, .int .i64 0, .int .i64 0] 37 (0, 0)) from (by (with_reducible repeat (first | refine zg ?_ _ | refine zi ?_ | refine zh ?_ _)); exact Jj.o)) rfl (by kernel_rfl) (show 10 ≤ 10 by decide) (by intro q_ hq_; simp only [List.mem_cons, List.not_mem_nil, or_false] at hq_; rcases hq_ with rfl | rfl | rfl | rfl | rfl | rfl | rfl | rfl | rfl | rfl <;> rfl))); intro w26 hw; have n0_ : ze (w26.heap[Jk]? = some (.cells #[.int .i64 0, .int .i64 0, .int .i64 0, .int .u64 a0, .int .i64 Jb, .int .i64 Jc, .int .i64 Jd, .int .i64 Je, .int .i64 Jf, .int .i64 (-1)] 37 (0, 0))) := ⟨(by rw [hw]; exact (by (with_reducible repeat (first | refine zg ?_ _ | refine zi ?_ | refine zh ?_ _)); refine zq (cs := #[.int .i64 0, .int .i64 0, .int .i64 0, .int .u64 a0, .int .i64 Jb, .int .i64 Jc, .int .i64 Jd, .int .i64 Je, .int .i64 Jf, .int .i64 0]) ?_ 9 _ rfl; (with_reducible repeat (first | refine zg ?_ _ | refine zi ?_ | refine zh ?_ _)); refine zq (cs := #[.int .i64 0, .int .i64 0, .int .i64 0, .int .u64 a0, .int .i64 Jb, .int .i64 Jc, .int .i64 Jd, .int .i64 Je, .int .i64 0, .int .i64 0]) ?_ 8 _ rfl; (with_reducible repeat (first | refine zg ?_ _ | refine zi ?_ | refine zh ?_ _)); refine zq (cs := #[.int .i64 0, .int .i64 0, .int .i64 0, .int .u64 a0, .int .i64 Jb, .int .i64 Jc, .int .i64 Jd, .int .i64 0, .int .i64 0, .int .i64 0]) ?_ 7 _ rfl; (with_reducible repeat (first | refine zg ?_ _ | refine zi ?_ | refine zh ?_ _)); refine zq (cs := #[.int .i64 0, .int .i64 0, .int .i64 0, .int .u64 a0, .int .i64 Jb, .int .i64 Jc, .int .i64 0, .int .i64 0, .int .i64 0, .int .i64 0]) ?_ 6 _ rfl; (with_reducible repeat (first | refine zg ?_ _ | refine zi ?_ | refine zh ?_ _)); refine zq (cs := #[.int .i64 0, .int .i64 0, .int .i64 0, .int .u64 a0, .int .i64 Jb, .int .i64 0, .int .i64 0, .int .i64 0, .int .i64 0, .int .i64 0]) ?_ 5 _ rfl; (with_reducible repeat (first | refine zg ?_ _ | refine zi ?_ | refine zh ?_ _)); refine zq (cs := #[.int .i64 0, .int .i64 0, .int .i64 0, .int .u64 a0, .int .i64 0, .int .i64 0, .int .i64 0, .int .i64 0, .int .i64 0, .int .i64 0]) ?_ 4 _ rfl; (with_reducible repeat (first | refine zg ?_ _ | refine zi ?_ | refine zh ?_ _)); refine zq (cs := #[.int .i64 0, .int .i64 0, .int .i64 0, .int .u64 0, .int .i64 0, .int .i64 0, .int .i64 0, .int .i64 0, .int .i64 0, .int .i64 0]) ?_ 3 _ rfl; (with_reducible repeat (first | refine zg ?_ _ | refine zi ?_ | refine zh ?_ _)); refine zq (cs := #[.int .i64 0, .int .i64 0, .int .i64 0, .int .u64 0, .int .i64 0, .int .i64 0, .int .i64 0, .int .i64 0, .int .i64 0, .int .i64 0]) ?_ 2 _ rfl; (with_reducible repeat (first | refine zg ?_ _ | refine zi ?_ | refine zh ?_ _)); refine zq (cs := #[.int .i64 0, .int .i64 0, .int .i64 0, .int .u64 0, .int .i64 0, .int .i64 0, .int .i64 0, .int .i64 0, .int .i64 0, .int .i64 0]) ?_ 1 _ rfl; (with_reducible repeat (first | refine zg ?_ _ | refine zi ?_ | refine zh ?_ _)); refine zq (cs := #[.int .i64 0, .int .i64 0, .int .i64 0, .int .u64 0, .int .i64 0, .int .i64 0, .int .i64 0, .int .i64 0, .int .i64 0, .int .i64 0]) ?_ 0 _ rfl; (with_reducible repeat (first | refine zg ?_ _ | refine zi ?_ | refine zh ?_ _)); exact Jj.o))⟩; have n1_ : ze (w26.heap[Jg]? = some (.cells #[.int .i64 0, .int .i64 0, .int .i64 0, .int .u64 a0, .int .i64 Jb, .int .i64 Jc, .int .i64 Jd, .int .i64 Je, .int .i64 Jf, .int .i64 (-1)] 37 (0, 0))) := ⟨(by rw [hw]; exact (by (with_reducible repeat (first | refine zg ?_ _ | refine zi ?_ | refine zh ?_ _)); refine zB ?_ Ji.o _; (with_reducible repeat (first | refine zg ?_ _ | refine zi ?_ | refine zh ?_ _)); refine zB ?_ Ji.o _; (with_reducible repeat (first | refine zg ?_ _ | refine zi ?_ | refine zh ?_ _)); refine zB ?_ Ji.o _; (with_reducible repeat (first | refine zg ?_ _ | refine zi ?_ | refine zh ?_ _)); refine zB ?_ Ji.o _; (with_reducible repeat (first | refine zg ?_ _ | refine zi ?_ | refine zh ?_ _)); refine zB ?_ Ji.o _; (with_reducible repeat (first | refine zg ?_ _ | refine zi ?_ | refine zh ?_ _)); refine zB ?_ Ji.o _; (with_reducible repeat (first | refine zg ?_ _ | refine zi ?_ | refine zh ?_ _)); refine zB ?_ Ji.o _; (with_reducible repeat (first | refine zg ?_ _ | refine zi ?_ | refine zh ?_ _)); refine zB ?_ Ji.o _; (with_reducible repeat (first | refine zg ?_ _ | refine zi ?_ | refine zh ?_ _)); refine zB ?_ Ji.o _; (with_reducible repeat (first | refine zg ?_ _ | refine zi ?_ | refine zh ?_ _)); refine zB ?_ Ji.o _; (with_reducible repeat (first | refine zg ?_ _ | refine zi ?_ | refine zh ?_ _)); exact Ja.o))⟩; have n2_ : ze (Below w.heap.size w w26) := ⟨(by rw [hw]; exact (by repeat (first | (with_reducible first | exact HB.o | apply zl | apply zf | apply zk | refine zm ?_ Jq.o | refine zm ?_ Jw.o) | exact HB.o)))⟩; clear hw; clear Jj; clear Ja; clear HB; have Jj := n0_; have Ja := n1_; have HB := n2_; clear n0_ n1_ n2_))
    refine bodyPost_ret (results_cell_row rfl _ _ Jk 37 #[.int .i64 0, .int .i64 0, .int .i64 0, .int .u64 a0, .int .i64 Jb, .int .i64 Jc, .int .i64 Jd, .int .i64 Je, .int .i64 Jf, .int .i64 (-1)] (0, 0) _ rfl (by (with_reducible repeat (first | refine zg ?_ _ | refine zi ?_ | refine zh ?_ _)); exact Jj.o) Tryz.underlying37 rfl (by kernel_rfl)) rfl ?_
    exact ⟨by first | rfl | (simp [zy, zx] <;> rfl) | (simp [*, zy, zx] <;> rfl), by repeat (first | (with_reducible first | exact HB.o | apply zl | apply zf | apply zk | refine zm ?_ Jq.o | refine zm ?_ Jw.o) | exact HB.o)⟩

/-! ### cards_odd: function 90 -/
def cards_odd.f (a0 : Int) : Option (Bool) := if a0 < (-1) then (some true) else (some (decide (a0 ≥ 96)))
set_option maxHeartbeats 8000000 in
set_option maxRecDepth 100000 in
theorem cards_odd.calls (a0 : Int) (r : Bool) (w : World) (h : cards_odd.f a0 = some r) :
  Calls Tryz.prog 90 #[.int .i64 a0] w fun e w' => e = .returned (.bool r) ∧ zL w w' := by
 have H : (if a0 < (-1) then (some true) else (some (decide (a0 ≥ 96)))) = some r := h
 clear h
 by_cases c2 : a0 < (-1)
 ·rw [if_pos c2] at H
  have c2b0 : decide (a0 < (-1)) = true := decide_eq_true c2
  clear c2
  obtain rfl := Option.some.inj H
  go_enter Tryz.func90, Tryz.ntmps90
  go_wp2
  go_ret
  exact ⟨by first | rfl | (simp; done) | (simp [*]; done), by repeat (first | exact zL.refl _ | apply zL.step)⟩
 ·rw [if_neg c2] at H
  have c2b0 : decide (a0 < (-1)) = false := decide_eq_false c2
  clear c2
  obtain rfl := Option.some.inj H
  go_enter Tryz.func90, Tryz.ntmps90
  go_wp2
  go_ret
  exact ⟨by first | rfl | (simp; done) | (simp [*]; done), by repeat (first | exact zL.refl _ | apply zL.step)⟩

end Go.Proofs.YtkbhilhefnahpaaGreat.Print
