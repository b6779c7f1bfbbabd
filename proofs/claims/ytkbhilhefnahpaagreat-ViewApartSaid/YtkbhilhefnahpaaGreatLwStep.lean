/- A step of the statements' scripts, whatever it is. -/
import Derived.Test.YtkbhilhefnahpaaGreatRefX
import Derived.Test.YtkbhilhefnahpaaGreatPrint5
import Derived.Test.YtkbhilhefnahpaaGreatPrint9
namespace Go.Proofs.YtkbhilhefnahpaaGreat.Rf
open Go Go.RowKit Go.Proofs.YtkbhilhefnahpaaGreat.ML Go.Proofs.YtkbhilhefnahpaaGreat.Mem Go.Proofs.YtkbhilhefnahpaaGreat.Vw Go.Proofs.YtkbhilhefnahpaaGreat.Reg Go.Proofs.YtkbhilhefnahpaaGreat.Print Go.Proofs.YtkbhilhefnahpaaGreatW.PrintWords Go.Proofs.YtkbhilhefnahpaaGreatW.PrintLast Go.Proofs.YtkbhilhefnahpaaGreatW.PrintMore
set_option linter.unusedVariables false
set_option linter.unusedSimpArgs false
theorem eqA5 (d : Nat) (w : World) (x0 y0 : Int) (x1 y1 : Int) (x2 y2 : Int) (x3 y3 : Int) (x4 y4 : Int) :
  (Op.equalIn (d + 2) 35 (.agg #[.int .i64 x0, .int .i64 x1, .int .i64 x2, .int .i64 x3, .int .i64 x4]) (.agg #[.int .i64 y0, .int .i64 y1, .int .i64 y2, .int .i64 y3, .int .i64 y4])).run Tryz.prog w = .ok (x0 == y0 && (x1 == y1 && (x2 == y2 && (x3 == y3 && (x4 == y4))))) w := by
 refine eqR_of (is := [0, 1, 2, 3, 4]) (c := 1) Tryz.underlying35 (by kernel_rfl) (by kernel_rfl) (by kernel_rfl) ?_
 refine Zz (by go_simp; rfl) (by go_simp; rfl) (by go_simp) ?_
 refine Zz (by go_simp; rfl) (by go_simp; rfl) (by go_simp) ?_
 refine Zz (by go_simp; rfl) (by go_simp; rfl) (by go_simp) ?_
 refine Zz (by go_simp; rfl) (by go_simp; rfl) (by go_simp) ?_
 exact eqi_last (by go_simp; rfl) (by go_simp; rfl) (by go_simp)
theorem eqAC (d : Nat) (w : World) (x0 y0 : Int) (x1 y1 : Int) (x2 y2 : Int) (x3 y3 : Int) (x4 y4 : Int) (x5 y5 : Int) (x6 y6 : Int) (x7 y7 : Int) (x8 y8 : Int) (x9 y9 : Int) :
  (Op.equalIn (d + 3) 37 (.agg #[.int .i64 x0, .int .i64 x1, .int .i64 x2, .int .u64 x3, .int .i64 x4, .int .i64 x5, .int .i64 x6, .int .i64 x7, .int .i64 x8, .int .i64 x9]) (.agg #[.int .i64 y0, .int .i64 y1, .int .i64 y2, .int .u64 y3, .int .i64 y4, .int .i64 y5, .int .i64 y6, .int .i64 y7, .int .i64 y8, .int .i64 y9])).run Tryz.prog w = .ok (x0 == y0 && (x1 == y1 && (x2 == y2 && (x3 == y3 && ((x4 == y4 && (x5 == y5 && (x6 == y6 && (x7 == y7 && (x8 == y8))))) && (x9 == y9)))))) w := by
 refine eqA_of Tryz.underlying37 (by kernel_rfl) ?_
 refine Zj (by rfl) (by go_simp; rfl) (by go_simp; rfl) (by go_simp) ?_
 refine Zj (by rfl) (by go_simp; rfl) (by go_simp; rfl) (by go_simp) ?_
 refine Zj (by rfl) (by go_simp; rfl) (by go_simp; rfl) (by go_simp) ?_
 refine Zj (by rfl) (by go_simp; rfl) (by go_simp; rfl) (by go_simp) ?_
 refine Zj (by rfl) (by go_simp) (by go_simp) (eqA5 (d + 0) w _ _ _ _ _ _ _ _ _ _) ?_
 exact eqf_last (by rfl) (by go_simp; rfl) (by go_simp; rfl) (by go_simp)
attribute [local go_sem high] eqAC
structure OpP where
 k : Int
 i : Int
 v : Int
 c : Crd
 A : Option Addr
 cA : Nat
 L : List Int
 B : Option Addr
 cB : Nat
 I : List Int
def OpP.cells (o : OpP) : List Value := [.int .i64 o.k, .int .i64 o.i, .int .u64 o.v, .int .i64 o.c.k, .int .i64 o.c.l, .int .i64 o.c.s, .int .u64 o.c.v, .int .i64 o.c.d0, .int .i64 o.c.d1, .int .i64 o.c.d2, .int .i64 o.c.d3, .int .i64 o.c.d4, .int .i64 o.c.m, .slice o.A o.L.length o.cA, .slice o.B o.I.length o.cB]
abbrev OpP.val (o : OpP) : Value := .agg #[.int .i64 o.k, .int .i64 o.i, .int .u64 o.v, .int .i64 o.c.k, .int .i64 o.c.l, .int .i64 o.c.s, .int .u64 o.c.v, .int .i64 o.c.d0, .int .i64 o.c.d1, .int .i64 o.c.d2, .int .i64 o.c.d3, .int .i64 o.c.d4, .int .i64 o.c.m, .slice o.A o.L.length o.cA, .slice o.B o.I.length o.cB]
def OpP.kd (o : OpP) : Int := wrap64 (Int.tmod (IntKind.u64.wrap o.k) 9)
theorem OpP.kd_in (o : OpP) : 0 ≤ o.kd ∧ o.kd < 9 := by
 unfold OpP.kd
 have h0 : 0 ≤ IntKind.u64.wrap o.k := by simp [IntKind.wrap, IntKind.signed, IntKind.bits]; omega
 have h1 := Int.tmod_nonneg 9 h0
 have h2 := Int.tmod_lt_of_pos (IntKind.u64.wrap o.k) (show (0 : Int) < 9 by omega)
 generalize Int.tmod (IntKind.u64.wrap o.k) 9 = y at *
 unfold wrap64
 omega
structure OpOk (w0 : World) (o : OpP) : Prop where
 hi : oki o.i
 hv : okw o.v
 hc : okw o.c.v
 L : Kd.C (Kd.int .u64) w0 o.A o.L.length o.L
 Lc : o.L.length ≤ o.cA
 Lw : ∀ x ∈ o.L, okw x
 I : Kd.C (Kd.int .i64) w0 o.B o.I.length o.I
 Ic : o.I.length ≤ o.cB
 Il : o.I.length ≤ 9223372036854775807
 Iw : ∀ x ∈ o.I, oki x
structure OpP.Facts (w : World) (g : Nat) (o : OpP) : Prop where
 y0 : w.cell? ⟨g, 0, none⟩ = some (.int .i64 o.k)
 y1 : w.cell? ⟨g, 1, none⟩ = some (.int .i64 o.i)
 y2 : w.cell? ⟨g, 2, none⟩ = some (.int .u64 o.v)
 y3 : w.cell? ⟨g, 3, none⟩ = some (.int .i64 o.c.k)
 y4 : w.cell? ⟨g, 4, none⟩ = some (.int .i64 o.c.l)
 y5 : w.cell? ⟨g, 5, none⟩ = some (.int .i64 o.c.s)
 y6 : w.cell? ⟨g, 6, none⟩ = some (.int .u64 o.c.v)
 y7 : w.cell? ⟨g, 7, none⟩ = some (.int .i64 o.c.d0)
 y8 : w.cell? ⟨g, 8, none⟩ = some (.int .i64 o.c.d1)
 y9 : w.cell? ⟨g, 9, none⟩ = some (.int .i64 o.c.d2)
 y10 : w.cell? ⟨g, 10, none⟩ = some (.int .i64 o.c.d3)
 y11 : w.cell? ⟨g, 11, none⟩ = some (.int .i64 o.c.d4)
 y12 : w.cell? ⟨g, 12, none⟩ = some (.int .i64 o.c.m)
 y13 : w.cell? ⟨g, 13, none⟩ = some (.slice o.A o.L.length o.cA)
 y14 : w.cell? ⟨g, 14, none⟩ = some (.slice o.B o.I.length o.cB)
abbrev opObj (o : OpP) : Obj := .cells o.cells.toArray 40 (0, 0)
theorem OpP.facts {w : World} {g : Nat} {o : OpP} (h : w.heap[g]? = some (opObj o)) : OpP.Facts w g o :=
 ⟨cell_of h rfl, cell_of h rfl, cell_of h rfl, cell_of h rfl, cell_of h rfl, cell_of h rfl, cell_of h rfl, cell_of h rfl, cell_of h rfl, cell_of h rfl, cell_of h rfl, cell_of h rfl, cell_of h rfl, cell_of h rfl, cell_of h rfl⟩
def yn (w0 w : World) (q : Vp) (f : Fp) (r : Rp) (V : VS) (S : MS) (e : Ending) (w' : World) : Prop := ∃ (b : Bool) (q' : Vp) (r' : Rp) (V' : VS) (R' : RS), e = .returned (.bool b) ∧ Acc w0 w w' q f r V S q' r' V' R'
theorem yn.of {w0 w w' : World} {q q' : Vp} {f : Fp} {r r' : Rp} {V V' : VS} {S : MS} {R' : RS} {e : Ending} {b : Bool} (he : e = .returned (.bool b)) (A : Acc w0 w w' q f r V S q' r' V' R') : yn w0 w q f r V S e w' := ⟨b, q', r', V', R', he, A⟩
structure Crd.Facts (w : World) (g : Nat) (c : Crd) : Prop where
 y0 : w.cell? ⟨g, 0, none⟩ = some (.int .i64 c.k)
 y1 : w.cell? ⟨g, 1, none⟩ = some (.int .i64 c.l)
 y2 : w.cell? ⟨g, 2, none⟩ = some (.int .i64 c.s)
 y3 : w.cell? ⟨g, 3, none⟩ = some (.int .u64 c.v)
 y4 : w.cell? ⟨g, 4, none⟩ = some (.int .i64 c.d0)
 y5 : w.cell? ⟨g, 5, none⟩ = some (.int .i64 c.d1)
 y6 : w.cell? ⟨g, 6, none⟩ = some (.int .i64 c.d2)
 y7 : w.cell? ⟨g, 7, none⟩ = some (.int .i64 c.d3)
 y8 : w.cell? ⟨g, 8, none⟩ = some (.int .i64 c.d4)
 y9 : w.cell? ⟨g, 9, none⟩ = some (.int .i64 c.m)
theorem Crd.facts {w : World} {g : Nat} {c : Crd} (h : w.heap[g]? = some (.cells c.cells.toArray 37 (0, 0))) : Crd.Facts w g c :=
 ⟨cell_of h rfl, cell_of h rfl, cell_of h rfl, cell_of h rfl, cell_of h rfl, cell_of h rfl, cell_of h rfl, cell_of h rfl, cell_of h rfl, cell_of h rfl⟩
/-- Something of one's own, beside all that. -/
structure Boxed (w1 : World) (q : Vp) (r : Rp) (g : Nat) (ob : Obj) : Prop where
 blk : w1.heap[g]? = some ob
 off : g ∉ q.list ++ r.list
section
variable {w0 w w1 w2 : World} {q q1 q2 : Vp} {f : Fp} {r r1 r2 : Rp} {V V1 V2 : VS} {S : MS} {R R1 R2 : RS}
theorem Boxed.at {g : Nat} {ob : Obj} (h : Boxed w q r g ob) (A : Acc w0 w w1 q f r V S q1 r1 V1 R1) : w1.heap[g]? = some ob :=
 (A.turn.block g (Array.getElem?_eq_some_iff.1 h.blk).1 h.off).trans h.blk
theorem Trio.off {g : Nat} (T : Trio w0 w q f r V S R) (hg : w.heap.size ≤ g) : g ∉ q.list ++ r.list := by
 intro hm
 rcases List.mem_append.1 hm with hm | hm
 ·have := T.view.lts g hm; omega
 ·have := T.ref.lts g hm; omega
theorem Acc.fresh {wm : World} (M : Acc w0 w wm q f r V S q1 r1 V1 R1) (h : Acc w0 w w1 q f r V S q1 r1 V1 R1) {g : Nat} (hg : wm.heap.size ≤ g) (t : Turn [g] w1 w2) : Acc w0 w w2 q f r V S q1 r1 V1 R1 := by
 have sz := M.turn.size
 refine ⟨⟨?_, ?_, ?_, ?_, h.trio.qage, h.trio.fq, h.trio.fr, h.trio.qr⟩, ?_, h.qs, h.rs, h.opn, h.qp, h.rp⟩
 ·refine h.trio.below.trans (t.below h.trio.below.size fun x hx => ?_)
  have := M.trio.below.size
  simp at hx; omega
 ·exact h.trio.view.kept t fun b hb => by have := M.trio.view.lts b hb; simp; omega
 ·exact h.trio.mem.kept t fun b hb => by have := M.trio.mem.lts b hb; simp; omega
 ·exact h.trio.ref.kept t fun b hb => by have := M.trio.ref.lts b hb; simp; omega
 ·refine h.turn.comp t fun x hx => .inr ?_
  simp at hx; omega
end
theorem ZO {w0 w : World} {o : OpP} (H : OpOk w0 o) (hb : Below w0.heap.size w0 w) {j : Int} (hj : o.kd = j) : Calls Tryz.prog 22 #[o.val] w fun e w' => e = .returned (.int .i64 j) ∧ Below w.heap.size w w' := by
 subst hj
 refine (escritoirelaw08_Op_kind.calls o.k o.i o.v o.c.k o.c.l o.c.s o.c.v o.c.d0 o.c.d1 o.c.d2 o.c.d3 o.c.d4 o.c.m o.A o.cA o.L o.B o.cB o.I _ w (Kd.zZ H.L hb) H.Lc (Kd.zZ H.I hb) H.Ic rfl).mono ?_
 rintro e w' ⟨rfl, hd⟩
 exact ⟨rfl, by first | exact hd | exact hd.below⟩
theorem Same_as {w : World} {A A' : Option Addr} {n c n' c' : Nat} {l l' : List Int} (h1 : Kd.C (Kd.int .u64) w A n l) (h2 : l.length = n) (h3 : n ≤ 16) (h4 : n ≤ c) (k1 : Kd.C (Kd.int .u64) w A' n' l') (k2 : l'.length = n') (k4 : n' ≤ c') (b : Bool) (hb : decide (l = l') = b) :
  Calls Tryz.prog 30 #[.slice A n c, .slice A' n' c'] w fun e w' => e = .returned (.bool b) ∧ Below w.heap.size w w' := by
 subst h2 k2 hb
 obtain ⟨k, hk⟩ := (Cp.Same_ev l l' (by omega)).rounds
 refine (escritoireref01_Same.calls k A c l A' c' l' _ w h1 h4 k1 k4 hk).mono ?_
 rintro e w' ⟨rfl, hd⟩
 exact ⟨rfl, by first | exact hd | exact hd.below⟩
theorem IsRef.away1 {w0 w : World} {r : Rp} {R : RS} (h : IsRef w0 w r R) {B : Option Addr} {c : Nat} {l : List Int} (hC : Kd.C (Kd.int .i64) w0 B l.length l) (hl : l.length ≤ c ∧ l.length ≤ 9223372036854775807) : IsRef w0 (w.setCell ⟨r.p, 50, none⟩ (.slice B l.length c)) { r with A1 := B, c1 := c } { R with l1 := l } ∧ Turn [r.p] w (w.setCell ⟨r.p, 50, none⟩ (.slice B l.length c)) := by
 have t := Turn.setCell w ⟨r.p, 50, none⟩ (.slice B l.length c)
 refine ⟨⟨?_, h.sm, h.base.block (t.block r.bb (h.lts _ (by simp [Rp.list])) (by simpa using fun e => h.ne.1 e.symm)), h.now.block (t.block r.bn (h.lts _ (by simp [Rp.list])) (by simpa using fun e => h.ne.2.1 e.symm)), hC, h.a2, hl, h.h2, h.ne, h.age⟩, t⟩
 rw [yu _ h.cells]
 congr 2
 apply Array.toList_inj.1
 rw [Array.toList_setIfInBounds]
 show (yY r R).set 50 _ = _
 unfold yY
 rw [List.set_append_right _ _ (by simp [h.sm])]
 simp [h.sm]
theorem IsRef.away2 {w0 w : World} {r : Rp} {R : RS} (h : IsRef w0 w r R) {B : Option Addr} {c : Nat} {l : List Int} (hC : Kd.C (Kd.int .i64) w0 B l.length l) (hl : l.length ≤ c ∧ l.length ≤ 9223372036854775807) : IsRef w0 (w.setCell ⟨r.p, 51, none⟩ (.slice B l.length c)) { r with A2 := B, c2 := c } { R with l2 := l } ∧ Turn [r.p] w (w.setCell ⟨r.p, 51, none⟩ (.slice B l.length c)) := by
 have t := Turn.setCell w ⟨r.p, 51, none⟩ (.slice B l.length c)
 refine ⟨⟨?_, h.sm, h.base.block (t.block r.bb (h.lts _ (by simp [Rp.list])) (by simpa using fun e => h.ne.1 e.symm)), h.now.block (t.block r.bn (h.lts _ (by simp [Rp.list])) (by simpa using fun e => h.ne.2.1 e.symm)), h.a1, hC, h.h1, hl, h.ne, h.age⟩, t⟩
 rw [yu _ h.cells]
 congr 2
 apply Array.toList_inj.1
 rw [Array.toList_setIfInBounds]
 show (yY r R).set 51 _ = _
 unfold yY
 rw [List.set_append_right _ _ (by simp [h.sm])]
 simp [h.sm]
set_option maxHeartbeats 8000000 in
set_option maxRecDepth 100000 in
theorem step0 {w0 w : World} {q : Vp} {f : Fp} {r : Rp} {V : VS} {S : MS} {R : RS} (T : Trio w0 w q f r V S R) (o : OpP) (H : OpOk w0 o) (hj : o.kd = 0) :
  Calls Tryz.prog 9 #[vptr q, rptr r, o.val] w (yn w0 w q f r V S) := by
 have HT := ze.mk T
 have HH := ze.mk H
 have HJ := ze.mk hj
 have hu := Tryz.underlying37
 clear T H hj
 go_enter Tryz.func9, Tryz.ntmps9
 go_wp2_with (first
  | ((with_reducible refine zD (N := 5) rfl ?_); refine zC ?hg (N := 5) ?hd (cs := o.cells.toArray) (t := 40) ?hr ?_; (case hd => rfl); (case hg => rfl); (case hr => first | (go_simp; done) | (go_simp; rfl)); intro g hg w1 hbox hb; have X1 := ze.mk (Boxed.mk (q := q) (r := r) hbox (HT.o.off (Nat.le_of_eq hg.symm))); have A1 := ze.mk (HT.o.step hb).acc; have B1 := ze.mk hb; obtain ⟨y0, y1, y2, y3, y4, y5, y6, y7, y8, y9, y10, y11, y12, y13, y14⟩ := OpP.facts hbox; clear hb hbox hg)
  | (go_at_call 22; refine (ZO HH.o A1.o.trio.below HJ.o).mono ?_; rintro e w2 ⟨rfl, hb⟩; have A2 := ze.mk (A1.o.step hb); clear hb y0 y1 y2 y3 y4 y5 y6 y7 y8 y9 y10 y11 y12 y13 y14; obtain ⟨y0, y1, y2, y3, y4, y5, y6, y7, y8, y9, y10, y11, y12, y13, y14⟩ := OpP.facts (X1.o.at A2.o)))
 have AI := ze.mk (A2.o.step (Below.refl _ _).drew)
 refine yj (fun W => W.heap[g]? = some (opObj o)) (fun i => [5, 11].contains i) (by kernel_rfl) (by kernel_rfl) (X1.o.at AI.o) ?_
 clear y0 y1 y2 y3 y4 y5 y6 y7 y8 y9 y10 y11 y12 y13 y14
 generalize w2.drew = wd at AI ⊢
 repeat (first
  | ((apply S_val rfl; (first | exact zG rfl | exact zI rfl rfl (by kernel_rfl)); (intro W hW R hR; obtain ⟨z0, z1, z2, z3, z4, z5, z6, z7, z8, z9, z10, z11, z12, z13, z14⟩ := OpP.facts hW; go_simp; exact hR)); go_frame)
  | ((refine yC rfl ?_ ?_ (vWrite_acc AI.o o.i o.v HH.o.hi HH.o.hv) ?_; (first | exact zG rfl | exact zI rfl rfl (by kernel_rfl)); (focus (first | (go_simp; done) | (go_simp; rfl)))); rintro e wn ⟨x1, rfl, V2, hA⟩; have n_ := ze.mk hA; clear hA AI; have AI := n_; clear n_; refine ⟨_, rfl, X1.o.at AI.o, ?_⟩; go_frame)
  | ((refine yC rfl ?_ ?_ (rWrite_acc AI.o o.i o.v HH.o.hi HH.o.hv) ?_; (first | exact zG rfl | exact zI rfl rfl (by kernel_rfl)); (focus (first | (go_simp; done) | (go_simp; rfl)))); rintro e wn ⟨x2, rfl, R2, hA⟩; have n_ := ze.mk hA; clear hA AI; have AI := n_; clear n_; refine ⟨_, rfl, X1.o.at AI.o, ?_⟩; go_frame))
 apply S_nil
 go_wp2
 go_ret
 exact yn.of rfl (AI.o.before B1.o)
set_option maxHeartbeats 8000000 in
set_option maxRecDepth 100000 in
theorem step2 {w0 w : World} {q : Vp} {f : Fp} {r : Rp} {V : VS} {S : MS} {R : RS} (T : Trio w0 w q f r V S R) (o : OpP) (H : OpOk w0 o) (hj : o.kd = 2) :
  Calls Tryz.prog 9 #[vptr q, rptr r, o.val] w (yn w0 w q f r V S) := by
 have HT := ze.mk T
 have HH := ze.mk H
 have HJ := ze.mk hj
 have hu := Tryz.underlying37
 clear T H hj
 go_enter Tryz.func9, Tryz.ntmps9
 go_wp2_with (first
  | ((with_reducible refine zD (N := 5) rfl ?_); refine zC ?hg (N := 5) ?hd (cs := o.cells.toArray) (t := 40) ?hr ?_; (case hd => rfl); (case hg => rfl); (case hr => first | (go_simp; done) | (go_simp; rfl)); intro g hg w1 hbox hb; have X1 := ze.mk (Boxed.mk (q := q) (r := r) hbox (HT.o.off (Nat.le_of_eq hg.symm))); have A1 := ze.mk (HT.o.step hb).acc; have B1 := ze.mk hb; obtain ⟨y0, y1, y2, y3, y4, y5, y6, y7, y8, y9, y10, y11, y12, y13, y14⟩ := OpP.facts hbox; clear hb hbox hg)
  | (go_at_call 22; refine (ZO HH.o A1.o.trio.below HJ.o).mono ?_; rintro e w2 ⟨rfl, hb⟩; have A2 := ze.mk (A1.o.step hb); clear hb y0 y1 y2 y3 y4 y5 y6 y7 y8 y9 y10 y11 y12 y13 y14; obtain ⟨y0, y1, y2, y3, y4, y5, y6, y7, y8, y9, y10, y11, y12, y13, y14⟩ := OpP.facts (X1.o.at A2.o)))
 have AI := ze.mk (A2.o.step (Below.refl _ _).drew)
 refine yj (fun W => W.heap[g]? = some (opObj o)) (fun i => [5, 11].contains i) (by kernel_rfl) (by kernel_rfl) (X1.o.at AI.o) ?_
 clear y0 y1 y2 y3 y4 y5 y6 y7 y8 y9 y10 y11 y12 y13 y14
 generalize w2.drew = wd at AI ⊢
 repeat (first
  | ((apply S_val rfl; (first | exact zG rfl | exact zI rfl rfl (by kernel_rfl)); (intro W hW R hR; obtain ⟨z0, z1, z2, z3, z4, z5, z6, z7, z8, z9, z10, z11, z12, z13, z14⟩ := OpP.facts hW; go_simp; exact hR)); go_frame)
  | ((refine yC rfl ?_ ?_ (vSet_acc AI.o o.i o.c HH.o.hc) ?_; (first | exact zG rfl | exact zI rfl rfl (by kernel_rfl)); (focus (first | (go_simp; done) | (go_simp; rfl)))); rintro e wn ⟨x1, rfl, V2, hA⟩; have n_ := ze.mk hA; clear hA AI; have AI := n_; clear n_; refine ⟨_, rfl, X1.o.at AI.o, ?_⟩; go_frame)
  | ((refine yC rfl ?_ ?_ (rSet_acc AI.o o.i HH.o.hi o.c HH.o.hc) ?_; (first | exact zG rfl | exact zI rfl rfl (by kernel_rfl)); (focus (first | (go_simp; done) | (go_simp; rfl)))); rintro e wn ⟨x2, rfl, R2, hA⟩; have n_ := ze.mk hA; clear hA AI; have AI := n_; clear n_; refine ⟨_, rfl, X1.o.at AI.o, ?_⟩; go_frame))
 apply S_nil
 go_wp2
 go_ret
 exact yn.of rfl (AI.o.before B1.o)
set_option maxHeartbeats 8000000 in
set_option maxRecDepth 100000 in
theorem step4 {w0 w : World} {q : Vp} {f : Fp} {r : Rp} {V : VS} {S : MS} {R : RS} (T : Trio w0 w q f r V S R) (o : OpP) (H : OpOk w0 o) (hj : o.kd = 4) :
  Calls Tryz.prog 9 #[vptr q, rptr r, o.val] w (yn w0 w q f r V S) := by
 have HT := ze.mk T
 have HH := ze.mk H
 have HJ := ze.mk hj
 have hu := Tryz.underlying37
 clear T H hj
 go_enter Tryz.func9, Tryz.ntmps9
 go_wp2_with (first
  | ((with_reducible refine zD (N := 5) rfl ?_); refine zC ?hg (N := 5) ?hd (cs := o.cells.toArray) (t := 40) ?hr ?_; (case hd => rfl); (case hg => rfl); (case hr => first | (go_simp; done) | (go_simp; rfl)); intro g hg w1 hbox hb; have X1 := ze.mk (Boxed.mk (q := q) (r := r) hbox (HT.o.off (Nat.le_of_eq hg.symm))); have A1 := ze.mk (HT.o.step hb).acc; have B1 := ze.mk hb; obtain ⟨y0, y1, y2, y3, y4, y5, y6, y7, y8, y9, y10, y11, y12, y13, y14⟩ := OpP.facts hbox; clear hb hbox hg)
  | (go_at_call 22; refine (ZO HH.o A1.o.trio.below HJ.o).mono ?_; rintro e w2 ⟨rfl, hb⟩; have A2 := ze.mk (A1.o.step hb); clear hb y0 y1 y2 y3 y4 y5 y6 y7 y8 y9 y10 y11 y12 y13 y14; obtain ⟨y0, y1, y2, y3, y4, y5, y6, y7, y8, y9, y10, y11, y12, y13, y14⟩ := OpP.facts (X1.o.at A2.o)))
 have AI := ze.mk (A2.o.step (Below.refl _ _).drew)
 refine yj (fun W => W.heap[g]? = some (opObj o)) (fun i => [5, 11].contains i) (by kernel_rfl) (by kernel_rfl) (X1.o.at AI.o) ?_
 clear y0 y1 y2 y3 y4 y5 y6 y7 y8 y9 y10 y11 y12 y13 y14
 generalize w2.drew = wd at AI ⊢
 repeat (first
  | ((apply S_val rfl; (first | exact zG rfl | exact zI rfl rfl (by kernel_rfl)); (intro W hW R hR; obtain ⟨z0, z1, z2, z3, z4, z5, z6, z7, z8, z9, z10, z11, z12, z13, z14⟩ := OpP.facts hW; go_simp; exact hR)); go_frame)
  | ((refine yC rfl ?_ ?_ (vSetBlock_acc (c := o.cA) AI.o o.i HH.o.L HH.o.Lw) ?_; (first | exact zG rfl | exact zI rfl rfl (by kernel_rfl)); (focus (first | (go_simp; done) | (go_simp; rfl)))); rintro e wn ⟨x1, rfl, V2, hA⟩; have n_ := ze.mk hA; clear hA AI; have AI := n_; clear n_; refine ⟨_, rfl, X1.o.at AI.o, ?_⟩; go_frame)
  | ((refine yC rfl ?_ ?_ (rSetBlock_acc (c := o.cA) AI.o o.i HH.o.hi HH.o.L HH.o.Lw) ?_; (first | exact zG rfl | exact zI rfl rfl (by kernel_rfl)); (focus (first | (go_simp; done) | (go_simp; rfl)))); rintro e wn ⟨x2, rfl, R2, hA⟩; have n_ := ze.mk hA; clear hA AI; have AI := n_; clear n_; refine ⟨_, rfl, X1.o.at AI.o, ?_⟩; go_frame))
 apply S_nil
 go_wp2
 go_ret
 exact yn.of rfl (AI.o.before B1.o)
set_option maxHeartbeats 8000000 in
set_option maxRecDepth 100000 in
theorem step8 {w0 w : World} {q : Vp} {f : Fp} {r : Rp} {V : VS} {S : MS} {R : RS} (T : Trio w0 w q f r V S R) (o : OpP) (H : OpOk w0 o) (hj : o.kd = 8) :
  Calls Tryz.prog 9 #[vptr q, rptr r, o.val] w (yn w0 w q f r V S) := by
 have HT := ze.mk T
 have HH := ze.mk H
 have HJ := ze.mk hj
 have hu := Tryz.underlying37
 clear T H hj
 go_enter Tryz.func9, Tryz.ntmps9
 go_wp2_with (first
  | ((with_reducible refine zD (N := 5) rfl ?_); refine zC ?hg (N := 5) ?hd (cs := o.cells.toArray) (t := 40) ?hr ?_; (case hd => rfl); (case hg => rfl); (case hr => first | (go_simp; done) | (go_simp; rfl)); intro g hg w1 hbox hb; have X1 := ze.mk (Boxed.mk (q := q) (r := r) hbox (HT.o.off (Nat.le_of_eq hg.symm))); have A1 := ze.mk (HT.o.step hb).acc; have B1 := ze.mk hb; obtain ⟨y0, y1, y2, y3, y4, y5, y6, y7, y8, y9, y10, y11, y12, y13, y14⟩ := OpP.facts hbox; clear hb hbox hg)
  | (go_at_call 22; refine (ZO HH.o A1.o.trio.below HJ.o).mono ?_; rintro e w2 ⟨rfl, hb⟩; have A2 := ze.mk (A1.o.step hb); clear hb y0 y1 y2 y3 y4 y5 y6 y7 y8 y9 y10 y11 y12 y13 y14; obtain ⟨y0, y1, y2, y3, y4, y5, y6, y7, y8, y9, y10, y11, y12, y13, y14⟩ := OpP.facts (X1.o.at A2.o)))
 have AI := ze.mk (A2.o.step (Below.refl _ _).drew)
 refine yj (fun W => W.heap[g]? = some (opObj o)) (fun i => [3, 7].contains i) (by kernel_rfl) (by kernel_rfl) (X1.o.at AI.o) ?_
 clear y0 y1 y2 y3 y4 y5 y6 y7 y8 y9 y10 y11 y12 y13 y14
 generalize w2.drew = wd at AI ⊢
 repeat (first
  | ((apply S_val rfl; (first | exact zG rfl | exact zI rfl rfl (by kernel_rfl)); (intro W hW R hR; obtain ⟨z0, z1, z2, z3, z4, z5, z6, z7, z8, z9, z10, z11, z12, z13, z14⟩ := OpP.facts hW; go_simp; exact hR)); go_frame)
  | ((refine yC rfl ?_ ?_ (vRead_acc AI.o o.i HH.o.hi) ?_; (first | exact zG rfl | exact zI rfl rfl (by kernel_rfl)); (focus (first | (go_simp; done) | (go_simp; rfl)))); rintro e wn ⟨x1, rfl, hA⟩; have n_ := ze.mk hA; clear hA AI; have AI := n_; clear n_; refine ⟨_, rfl, X1.o.at AI.o, ?_⟩; go_frame)
  | ((refine yC rfl ?_ ?_ (rRead_acc AI.o o.i HH.o.hi) ?_; (first | exact zG rfl | exact zI rfl rfl (by kernel_rfl)); (focus (first | (go_simp; done) | (go_simp; rfl)))); rintro e wn ⟨x2, rfl, hA⟩; have n_ := ze.mk hA; clear hA AI; have AI := n_; clear n_; refine ⟨_, rfl, X1.o.at AI.o, ?_⟩; go_frame))
 apply S_nil
 go_wp2
 go_ret
 exact yn.of rfl (AI.o.before B1.o)
set_option maxHeartbeats 8000000 in
set_option maxRecDepth 100000 in
theorem step7 {w0 w : World} {q : Vp} {f : Fp} {r : Rp} {V : VS} {S : MS} {R : RS} (T : Trio w0 w q f r V S R) (o : OpP) (H : OpOk w0 o) (hj : o.kd = 7) :
  Calls Tryz.prog 9 #[vptr q, rptr r, o.val] w (yn w0 w q f r V S) := by
 have HT := ze.mk T
 have HH := ze.mk H
 have HJ := ze.mk hj
 have hu := Tryz.underlying37
 clear T H hj
 go_enter Tryz.func9, Tryz.ntmps9
 go_wp2_with (first
  | ((with_reducible refine zD (N := 5) rfl ?_); refine zC ?hg (N := 5) ?hd (cs := o.cells.toArray) (t := 40) ?hr ?_; (case hd => rfl); (case hg => rfl); (case hr => first | (go_simp; done) | (go_simp; rfl)); intro g hg w1 hbox hb; have X1 := ze.mk (Boxed.mk (q := q) (r := r) hbox (HT.o.off (Nat.le_of_eq hg.symm))); have A1 := ze.mk (HT.o.step hb).acc; have B1 := ze.mk hb; obtain ⟨y0, y1, y2, y3, y4, y5, y6, y7, y8, y9, y10, y11, y12, y13, y14⟩ := OpP.facts hbox; clear hb hbox hg)
  | (go_at_call 22; refine (ZO HH.o A1.o.trio.below HJ.o).mono ?_; rintro e w2 ⟨rfl, hb⟩; have A2 := ze.mk (A1.o.step hb); clear hb y0 y1 y2 y3 y4 y5 y6 y7 y8 y9 y10 y11 y12 y13 y14; obtain ⟨y0, y1, y2, y3, y4, y5, y6, y7, y8, y9, y10, y11, y12, y13, y14⟩ := OpP.facts (X1.o.at A2.o))
  | (go_at_call 38; refine (vReset_acc A2.o).mono ?_; rintro e w3 ⟨rfl, q3, V3, hp, hA⟩; have A3 := ze.mk hA; clear hA hp)
  | (go_at_call 39; refine (rReset_acc A3.o).mono ?_; rintro e w4 ⟨rfl, r4, R4, hp, hA⟩; have A4 := ze.mk hA; clear hA hp))
 go_ret
 exact yn.of (b := true) rfl (A4.o.before B1.o)
set_option maxHeartbeats 8000000 in
set_option maxRecDepth 100000 in
theorem step5 {w0 w : World} {q : Vp} {f : Fp} {r : Rp} {V : VS} {S : MS} {R : RS} (T : Trio w0 w q f r V S R) (o : OpP) (H : OpOk w0 o) (hj : o.kd = 5) :
  Calls Tryz.prog 9 #[vptr q, rptr r, o.val] w (yn w0 w q f r V S) := by
 have HT := ze.mk T
 have HH := ze.mk H
 have HJ := ze.mk hj
 have hu := Tryz.underlying37
 clear T H hj
 go_enter Tryz.func9, Tryz.ntmps9
 go_wp2_with (first
  | ((with_reducible refine zD (N := 5) rfl ?_); refine zC ?hg (N := 5) ?hd (cs := o.cells.toArray) (t := 40) ?hr ?_; (case hd => rfl); (case hg => rfl); (case hr => first | (go_simp; done) | (go_simp; rfl)); intro g hg w1 hbox hb; have X1 := ze.mk (Boxed.mk (q := q) (r := r) hbox (HT.o.off (Nat.le_of_eq hg.symm))); have A1 := ze.mk (HT.o.step hb).acc; have B1 := ze.mk hb; obtain ⟨y0, y1, y2, y3, y4, y5, y6, y7, y8, y9, y10, y11, y12, y13, y14⟩ := OpP.facts hbox; clear hb hbox hg)
  | (go_at_call 22; refine (ZO HH.o A1.o.trio.below HJ.o).mono ?_; rintro e w2 ⟨rfl, hb⟩; have A2 := ze.mk (A1.o.step hb); clear hb y0 y1 y2 y3 y4 y5 y6 y7 y8 y9 y10 y11 y12 y13 y14; obtain ⟨y0, y1, y2, y3, y4, y5, y6, y7, y8, y9, y10, y11, y12, y13, y14⟩ := OpP.facts (X1.o.at A2.o))
  | (go_at_call 33; refine (vAvoid_acc A2.o HH.o.I HH.o.Il HH.o.Iw).mono ?_; rintro e w3 ⟨rfl, q3, V3, hp, hA⟩; have A3 := ze.mk hA; clear hA hp y0 y1 y2 y3 y4 y5 y6 y7 y8 y9 y10 y11 y12 y13 y14; obtain ⟨y0, y1, y2, y3, y4, y5, y6, y7, y8, y9, y10, y11, y12, y13, y14⟩ := OpP.facts (X1.o.at A3.o); have f3 := A3.o.trio.ref.facts.fz; have r50 := A3.o.trio.ref.facts.c50)
  | ((with_reducible refine zJ (t := 38) (p := 122) rfl ?_); refine zH (t := 38) (p := 122) (v := .tmp 120) (w1 := w3.setCell ⟨r.p, 50, none⟩ (.slice o.B o.I.length o.cB)) ?hg ?ho ?hn ?hr ?_; (case ho => rfl); (case hg => rfl); (case hn => rfl); (case hr => first | (go_simp; done) | (go_simp; rfl)); intro w4 hw4; obtain ⟨q1, q2⟩ := A3.o.trio.ref.away1 HH.o.I ⟨HH.o.Ic, HH.o.Il⟩; rw [← hw4] at q1 q2; have A4 := ze.mk (A3.o.refs q1 (q2.mono fun x hx => .inl (by simp at hx; simp [Rp.list, hx])) (fun b hb => .inl hb) rfl); clear q1 q2 hw4 y0 y1 y2 y3 y4 y5 y6 y7 y8 y9 y10 y11 y12 y13 y14; obtain ⟨y0, y1, y2, y3, y4, y5, y6, y7, y8, y9, y10, y11, y12, y13, y14⟩ := OpP.facts (X1.o.at A4.o); have f4 := A4.o.trio.ref.facts.fz; have r51 := A4.o.trio.ref.facts.c51)
  | ((with_reducible refine zJ (t := 38) (p := 127) rfl ?_); refine zH (t := 38) (p := 127) (v := .tmp 125) (w1 := w4.setCell ⟨r.p, 51, none⟩ (.slice o.B o.I.length o.cB)) ?hg ?ho ?hn ?hr ?_; (case ho => rfl); (case hg => rfl); (case hn => rfl); (case hr => first | (go_simp; done) | (go_simp; rfl)); intro w5 hw5; obtain ⟨q1, q2⟩ := A4.o.trio.ref.away2 HH.o.I ⟨HH.o.Ic, HH.o.Il⟩; rw [← hw5] at q1 q2; have A5 := ze.mk (A4.o.refs q1 (q2.mono fun x hx => .inl (by simp at hx; simp [Rp.list, hx])) (fun b hb => .inl hb) rfl); clear q1 q2 hw5))
 go_ret
 exact yn.of (b := true) rfl (A5.o.before B1.o)
set_option maxHeartbeats 8000000 in
set_option maxRecDepth 100000 in
theorem step3 {w0 w : World} {q : Vp} {f : Fp} {r : Rp} {V : VS} {S : MS} {R : RS} (T : Trio w0 w q f r V S R) (o : OpP) (H : OpOk w0 o) (hj : o.kd = 3) :
  Calls Tryz.prog 9 #[vptr q, rptr r, o.val] w (yn w0 w q f r V S) := by
 have HT := ze.mk T
 have HH := ze.mk H
 have HJ := ze.mk hj
 have hu := Tryz.underlying37
 clear T H hj
 go_enter Tryz.func9, Tryz.ntmps9
 go_wp2_with (first
  | ((with_reducible refine zD (N := 5) rfl ?_); refine zC ?hg (N := 5) ?hd (cs := o.cells.toArray) (t := 40) ?hr ?_; (case hd => rfl); (case hg => rfl); (case hr => first | (go_simp; done) | (go_simp; rfl)); intro g hg w1 hbox hb; have X1 := ze.mk (Boxed.mk (q := q) (r := r) hbox (HT.o.off (Nat.le_of_eq hg.symm))); have A1 := ze.mk (HT.o.step hb).acc; have B1 := ze.mk hb; obtain ⟨y0, y1, y2, y3, y4, y5, y6, y7, y8, y9, y10, y11, y12, y13, y14⟩ := OpP.facts hbox; clear hb hbox hg)
  | (go_at_call 22; refine (ZO HH.o A1.o.trio.below HJ.o).mono ?_; rintro e w2 ⟨rfl, hb⟩; have A2 := ze.mk (A1.o.step hb); clear hb y0 y1 y2 y3 y4 y5 y6 y7 y8 y9 y10 y11 y12 y13 y14; obtain ⟨y0, y1, y2, y3, y4, y5, y6, y7, y8, y9, y10, y11, y12, y13, y14⟩ := OpP.facts (X1.o.at A2.o))
  | (go_at_call 28; refine (vBlock_acc A2.o o.i).mono ?_; rintro e w3 ⟨Aa, na, ca, la, xa, rfl, hC, hl, h16, hc, hA⟩; have A3 := ze.mk hA; have CA := ze.mk hC; have LA := ze.mk hl; have NA := ze.mk h16; have KA := ze.mk hc; clear hA hC hl h16 hc y0 y1 y2 y3 y4 y5 y6 y7 y8 y9 y10 y11 y12 y13 y14; obtain ⟨y0, y1, y2, y3, y4, y5, y6, y7, y8, y9, y10, y11, y12, y13, y14⟩ := OpP.facts (X1.o.at A3.o))
  | (go_at_call 29; refine (rBlock_acc A3.o o.i HH.o.hi).mono ?_; rintro e w4 ⟨Ab, nb, cb, lb, xb, rfl, hC, hl, h16, hc, hb, hA⟩; have A4 := ze.mk hA; have CB := ze.mk hC; have LB := ze.mk hl; have KB := ze.mk hc; have CA4 := ze.mk (Kd.zZ CA.o hb); clear hA hC hl h16 hc hb; obtain ⟨bb, hbb⟩ : ∃ b, decide (la = lb) = b := ⟨_, rfl⟩; have BB := ze.mk hbb; clear hbb)
  | (go_at_call 30; refine (Same_as CA4.o LA.o NA.o KA.o CB.o LB.o KB.o bb BB.o).mono ?_; rintro e w5 ⟨rfl, hb⟩; have A5 := ze.mk (A4.o.step hb); clear hb))
 all_goals (
  go_ret
  exact yn.of rfl (A5.o.before B1.o))
theorem rFresh_as {w0 w : World} {r : Rp} {R : RS} (h : IsRef w0 w r R) (hb : Below w0.heap.size w0 w) (i : Int) (hi : oki i) (b : Bool) (hf : R.fresh i = b) : Calls Tryz.prog 34 #[rptr r, .int .i64 i] w fun e w' => e = .returned (.bool b) ∧ Below w.heap.size w w' := by
 rw [← hf]
 exact Rf.Yo h hb i hi
theorem ZG {w : World} {q : Vp} {f : Fp} {V : VS} (h : zR w q f V) (i : Int) (hi : oki i) (b : Bool) (hb : noted V.awayN i = b) : Calls Tryz.prog 37 #[vptr q, .int .i64 i] w fun e w' => e = .returned (.bool b) ∧ w = w' := by
 rw [← hb]
 exact Vw.YZ h i hi
set_option maxHeartbeats 8000000 in
set_option maxRecDepth 100000 in
theorem step6 {w0 w : World} {q : Vp} {f : Fp} {r : Rp} {V : VS} {S : MS} {R : RS} (T : Trio w0 w q f r V S R) (o : OpP) (H : OpOk w0 o) (hj : o.kd = 6) :
  Calls Tryz.prog 9 #[vptr q, rptr r, o.val] w (yn w0 w q f r V S) := by
 have HT := ze.mk T
 have HH := ze.mk H
 have HJ := ze.mk hj
 have hu := Tryz.underlying37
 clear T H hj
 go_enter Tryz.func9, Tryz.ntmps9
 obtain ⟨fv, hfv⟩ : ∃ b, V.fresh S o.i = b := ⟨_, rfl⟩
 obtain ⟨fr, hfr⟩ : ∃ b, R.fresh o.i = b := ⟨_, rfl⟩
 obtain ⟨av, hav⟩ : ∃ b, noted V.away o.i = b := ⟨_, rfl⟩
 obtain ⟨an, han⟩ : ∃ b, noted V.awayN o.i = b := ⟨_, rfl⟩
 obtain ⟨ha, hha⟩ : ∃ b, hasB R.l1 o.i = b := ⟨_, rfl⟩
 obtain ⟨hn, hhn⟩ : ∃ b, hasB R.l2 o.i = b := ⟨_, rfl⟩
 have FV := ze.mk hfv
 have FR := ze.mk hfr
 have AV := ze.mk hav
 have AN := ze.mk han
 have HA := ze.mk hha
 have HN := ze.mk hhn
 clear hfv hfr hav han hha hhn
 go_wp2_with (first
  | ((with_reducible refine zD (N := 5) rfl ?_); refine zC ?hg (N := 5) ?hd (cs := o.cells.toArray) (t := 40) ?hr ?_; (case hd => rfl); (case hg => rfl); (case hr => first | (go_simp; done) | (go_simp; rfl)); intro g hg w1 hbox hb; have X1 := ze.mk (Boxed.mk (q := q) (r := r) hbox (HT.o.off (Nat.le_of_eq hg.symm))); have A1 := ze.mk (HT.o.step hb).acc; have B1 := ze.mk hb; obtain ⟨y0, y1, y2, y3, y4, y5, y6, y7, y8, y9, y10, y11, y12, y13, y14⟩ := OpP.facts hbox; clear hb hbox hg)
  | (go_at_call 22; refine (ZO HH.o A1.o.trio.below HJ.o).mono ?_; rintro e w2 ⟨rfl, hb⟩; have A2 := ze.mk (A1.o.step hb); clear hb y0 y1 y2 y3 y4 y5 y6 y7 y8 y9 y10 y11 y12 y13 y14; obtain ⟨y0, y1, y2, y3, y4, y5, y6, y7, y8, y9, y10, y11, y12, y13, y14⟩ := OpP.facts (X1.o.at A2.o)))
 have X2 := ze.mk (X1.o.at A2.o)
 clear y0 y1 y2 y3 y4 y5 y6 y7 y8 y9 y10 y11 y12 y13 y14
 by_cases h1 : fv = fr
 ·have g1 : decide (fv = fr) = true := decide_eq_true h1
  have g1' : (fv == fr) = true := by simpa using h1
  by_cases h2 : av = ha
  ·have g2 : decide (av = ha) = true := decide_eq_true h2
   have g2' : (av == ha) = true := by simpa using h2
   clear h1 h2
   refine yj (fun W => Below w2.heap.size w2 W) (fun i => [3, 7, 13, 20, 27, 34].contains i) (by kernel_rfl) (by kernel_rfl) (Below.refl _ _).drew ?_
   have AI := ze.mk ((Below.refl w2.heap.size w2).drew)
   generalize w2.drew = wd at AI ⊢
   repeat (first
    | (((first | refine S_off (ZI (b := true) rfl rfl (by rfl)) AI.o ?_ | refine S_off (ZI (b := false) rfl rfl (by rfl)) AI.o ?_ | refine S_off (wanted_undef rfl rfl (by rfl)) AI.o ?_)); go_frame)
    | ((apply S_val rfl; (first | exact zG rfl | exact zI rfl rfl (by kernel_rfl)); (intro W hW R hR; obtain ⟨z0, z1, z2, z3, z4, z5, z6, z7, z8, z9, z10, z11, z12, z13, z14⟩ := OpP.facts ((hW.block g (Array.getElem?_eq_some_iff.1 X2.o).1).trans X2.o); have F6 := (A2.o.trio.ref.below hW).facts; have r50 := F6.c50; have r51 := F6.c51; go_simp; exact hR)); go_frame)
    | ((refine yC rfl ?_ ?_ (Vw.Xd (A2.o.trio.view.below AI.o) (A2.o.trio.mem.below AI.o) o.i HH.o.hi fv FV.o) ?_; (first | exact zG rfl | exact zI rfl rfl (by kernel_rfl)); (focus (first | (go_simp; done) | (go_simp; rfl)))); rintro e wn ⟨rfl, hb⟩; have n_ := ze.mk (AI.o.trans (hb.mono AI.o.size)); clear hb AI; have AI := n_; clear n_; refine ⟨_, rfl, AI.o, ?_⟩; go_frame)
    | ((refine yC rfl ?_ ?_ (rFresh_as (A2.o.trio.ref.below AI.o) (A2.o.trio.below.trans (AI.o.mono A2.o.trio.below.size)) o.i HH.o.hi fr FR.o) ?_; (first | exact zG rfl | exact zI rfl rfl (by kernel_rfl)); (focus (first | (go_simp; done) | (go_simp; rfl)))); rintro e wn ⟨rfl, hb⟩; have n_ := ze.mk (AI.o.trans (hb.mono AI.o.size)); clear hb AI; have AI := n_; clear n_; refine ⟨_, rfl, AI.o, ?_⟩; go_frame)
    | ((refine yC rfl ?_ ?_ (Vw.YM (A2.o.trio.view.below AI.o) o.i HH.o.hi av AV.o) ?_; (first | exact zG rfl | exact zI rfl rfl (by kernel_rfl)); (focus (first | (go_simp; done) | (go_simp; rfl)))); rintro e wn ⟨rfl, rfl⟩; refine ⟨_, rfl, AI.o, ?_⟩; go_frame)
    | ((refine yC rfl ?_ ?_ (ZG (A2.o.trio.view.below AI.o) o.i HH.o.hi an AN.o) ?_; (first | exact zG rfl | exact zI rfl rfl (by kernel_rfl)); (focus (first | (go_simp; done) | (go_simp; rfl)))); rintro e wn ⟨rfl, rfl⟩; refine ⟨_, rfl, AI.o, ?_⟩; go_frame)
    | ((refine yC rfl ?_ ?_ (Has_as (Kd.zZ A2.o.trio.ref.a1 (A2.o.trio.below.trans (AI.o.mono A2.o.trio.below.size))) A2.o.trio.ref.h1 o.i ha HA.o) ?_; (first | exact zG rfl | exact zI rfl rfl (by kernel_rfl)); (focus (first | (go_simp; done) | (go_simp; rfl)))); rintro e wn ⟨rfl, hb⟩; have n_ := ze.mk (AI.o.trans (hb.below.mono AI.o.size)); clear hb AI; have AI := n_; clear n_; refine ⟨_, rfl, AI.o, ?_⟩; go_frame)
    | ((refine yC rfl ?_ ?_ (Has_as (Kd.zZ A2.o.trio.ref.a2 (A2.o.trio.below.trans (AI.o.mono A2.o.trio.below.size))) A2.o.trio.ref.h2 o.i hn HN.o) ?_; (first | exact zG rfl | exact zI rfl rfl (by kernel_rfl)); (focus (first | (go_simp; done) | (go_simp; rfl)))); rintro e wn ⟨rfl, hb⟩; have n_ := ze.mk (AI.o.trans (hb.below.mono AI.o.size)); clear hb AI; have AI := n_; clear n_; refine ⟨_, rfl, AI.o, ?_⟩; go_frame))
   apply S_nil
   go_wp2
   go_ret
   exact yn.of rfl ((A2.o.step AI.o).before B1.o)
  ·have g2 : decide (av = ha) = false := decide_eq_false h2
   have g2' : (av == ha) = false := by simpa using h2
   clear h1 h2
   refine yj (fun W => Below w2.heap.size w2 W) (fun i => [3, 7, 13, 20, 27, 34].contains i) (by kernel_rfl) (by kernel_rfl) (Below.refl _ _).drew ?_
   have AI := ze.mk ((Below.refl w2.heap.size w2).drew)
   generalize w2.drew = wd at AI ⊢
   repeat (first
    | (((first | refine S_off (ZI (b := true) rfl rfl (by rfl)) AI.o ?_ | refine S_off (ZI (b := false) rfl rfl (by rfl)) AI.o ?_ | refine S_off (wanted_undef rfl rfl (by rfl)) AI.o ?_)); go_frame)
    | ((apply S_val rfl; (first | exact zG rfl | exact zI rfl rfl (by kernel_rfl)); (intro W hW R hR; obtain ⟨z0, z1, z2, z3, z4, z5, z6, z7, z8, z9, z10, z11, z12, z13, z14⟩ := OpP.facts ((hW.block g (Array.getElem?_eq_some_iff.1 X2.o).1).trans X2.o); have F6 := (A2.o.trio.ref.below hW).facts; have r50 := F6.c50; have r51 := F6.c51; go_simp; exact hR)); go_frame)
    | ((refine yC rfl ?_ ?_ (Vw.Xd (A2.o.trio.view.below AI.o) (A2.o.trio.mem.below AI.o) o.i HH.o.hi fv FV.o) ?_; (first | exact zG rfl | exact zI rfl rfl (by kernel_rfl)); (focus (first | (go_simp; done) | (go_simp; rfl)))); rintro e wn ⟨rfl, hb⟩; have n_ := ze.mk (AI.o.trans (hb.mono AI.o.size)); clear hb AI; have AI := n_; clear n_; refine ⟨_, rfl, AI.o, ?_⟩; go_frame)
    | ((refine yC rfl ?_ ?_ (rFresh_as (A2.o.trio.ref.below AI.o) (A2.o.trio.below.trans (AI.o.mono A2.o.trio.below.size)) o.i HH.o.hi fr FR.o) ?_; (first | exact zG rfl | exact zI rfl rfl (by kernel_rfl)); (focus (first | (go_simp; done) | (go_simp; rfl)))); rintro e wn ⟨rfl, hb⟩; have n_ := ze.mk (AI.o.trans (hb.mono AI.o.size)); clear hb AI; have AI := n_; clear n_; refine ⟨_, rfl, AI.o, ?_⟩; go_frame)
    | ((refine yC rfl ?_ ?_ (Vw.YM (A2.o.trio.view.below AI.o) o.i HH.o.hi av AV.o) ?_; (first | exact zG rfl | exact zI rfl rfl (by kernel_rfl)); (focus (first | (go_simp; done) | (go_simp; rfl)))); rintro e wn ⟨rfl, rfl⟩; refine ⟨_, rfl, AI.o, ?_⟩; go_frame)
    | ((refine yC rfl ?_ ?_ (ZG (A2.o.trio.view.below AI.o) o.i HH.o.hi an AN.o) ?_; (first | exact zG rfl | exact zI rfl rfl (by kernel_rfl)); (focus (first | (go_simp; done) | (go_simp; rfl)))); rintro e wn ⟨rfl, rfl⟩; refine ⟨_, rfl, AI.o, ?_⟩; go_frame)
    | ((refine yC rfl ?_ ?_ (Has_as (Kd.zZ A2.o.trio.ref.a1 (A2.o.trio.below.trans (AI.o.mono A2.o.trio.below.size))) A2.o.trio.ref.h1 o.i ha HA.o) ?_; (first | exact zG rfl | exact zI rfl rfl (by kernel_rfl)); (focus (first | (go_simp; done) | (go_simp; rfl)))); rintro e wn ⟨rfl, hb⟩; have n_ := ze.mk (AI.o.trans (hb.below.mono AI.o.size)); clear hb AI; have AI := n_; clear n_; refine ⟨_, rfl, AI.o, ?_⟩; go_frame)
    | ((refine yC rfl ?_ ?_ (Has_as (Kd.zZ A2.o.trio.ref.a2 (A2.o.trio.below.trans (AI.o.mono A2.o.trio.below.size))) A2.o.trio.ref.h2 o.i hn HN.o) ?_; (first | exact zG rfl | exact zI rfl rfl (by kernel_rfl)); (focus (first | (go_simp; done) | (go_simp; rfl)))); rintro e wn ⟨rfl, hb⟩; have n_ := ze.mk (AI.o.trans (hb.below.mono AI.o.size)); clear hb AI; have AI := n_; clear n_; refine ⟨_, rfl, AI.o, ?_⟩; go_frame))
   apply S_nil
   go_wp2
   go_ret
   exact yn.of rfl ((A2.o.step AI.o).before B1.o)
 ·have g1 : decide (fv = fr) = false := decide_eq_false h1
  have g1' : (fv == fr) = false := by simpa using h1
  clear h1
  refine yj (fun W => Below w2.heap.size w2 W) (fun i => [3, 7, 13, 20, 27, 34].contains i) (by kernel_rfl) (by kernel_rfl) (Below.refl _ _).drew ?_
  have AI := ze.mk ((Below.refl w2.heap.size w2).drew)
  generalize w2.drew = wd at AI ⊢
  repeat (first
   | (((first | refine S_off (ZI (b := true) rfl rfl (by rfl)) AI.o ?_ | refine S_off (ZI (b := false) rfl rfl (by rfl)) AI.o ?_ | refine S_off (wanted_undef rfl rfl (by rfl)) AI.o ?_)); go_frame)
   | ((apply S_val rfl; (first | exact zG rfl | exact zI rfl rfl (by kernel_rfl)); (intro W hW R hR; obtain ⟨z0, z1, z2, z3, z4, z5, z6, z7, z8, z9, z10, z11, z12, z13, z14⟩ := OpP.facts ((hW.block g (Array.getElem?_eq_some_iff.1 X2.o).1).trans X2.o); have F6 := (A2.o.trio.ref.below hW).facts; have r50 := F6.c50; have r51 := F6.c51; go_simp; exact hR)); go_frame)
   | ((refine yC rfl ?_ ?_ (Vw.Xd (A2.o.trio.view.below AI.o) (A2.o.trio.mem.below AI.o) o.i HH.o.hi fv FV.o) ?_; (first | exact zG rfl | exact zI rfl rfl (by kernel_rfl)); (focus (first | (go_simp; done) | (go_simp; rfl)))); rintro e wn ⟨rfl, hb⟩; have n_ := ze.mk (AI.o.trans (hb.mono AI.o.size)); clear hb AI; have AI := n_; clear n_; refine ⟨_, rfl, AI.o, ?_⟩; go_frame)
   | ((refine yC rfl ?_ ?_ (rFresh_as (A2.o.trio.ref.below AI.o) (A2.o.trio.below.trans (AI.o.mono A2.o.trio.below.size)) o.i HH.o.hi fr FR.o) ?_; (first | exact zG rfl | exact zI rfl rfl (by kernel_rfl)); (focus (first | (go_simp; done) | (go_simp; rfl)))); rintro e wn ⟨rfl, hb⟩; have n_ := ze.mk (AI.o.trans (hb.mono AI.o.size)); clear hb AI; have AI := n_; clear n_; refine ⟨_, rfl, AI.o, ?_⟩; go_frame)
   | ((refine yC rfl ?_ ?_ (Vw.YM (A2.o.trio.view.below AI.o) o.i HH.o.hi av AV.o) ?_; (first | exact zG rfl | exact zI rfl rfl (by kernel_rfl)); (focus (first | (go_simp; done) | (go_simp; rfl)))); rintro e wn ⟨rfl, rfl⟩; refine ⟨_, rfl, AI.o, ?_⟩; go_frame)
   | ((refine yC rfl ?_ ?_ (ZG (A2.o.trio.view.below AI.o) o.i HH.o.hi an AN.o) ?_; (first | exact zG rfl | exact zI rfl rfl (by kernel_rfl)); (focus (first | (go_simp; done) | (go_simp; rfl)))); rintro e wn ⟨rfl, rfl⟩; refine ⟨_, rfl, AI.o, ?_⟩; go_frame)
   | ((refine yC rfl ?_ ?_ (Has_as (Kd.zZ A2.o.trio.ref.a1 (A2.o.trio.below.trans (AI.o.mono A2.o.trio.below.size))) A2.o.trio.ref.h1 o.i ha HA.o) ?_; (first | exact zG rfl | exact zI rfl rfl (by kernel_rfl)); (focus (first | (go_simp; done) | (go_simp; rfl)))); rintro e wn ⟨rfl, hb⟩; have n_ := ze.mk (AI.o.trans (hb.below.mono AI.o.size)); clear hb AI; have AI := n_; clear n_; refine ⟨_, rfl, AI.o, ?_⟩; go_frame)
   | ((refine yC rfl ?_ ?_ (Has_as (Kd.zZ A2.o.trio.ref.a2 (A2.o.trio.below.trans (AI.o.mono A2.o.trio.below.size))) A2.o.trio.ref.h2 o.i hn HN.o) ?_; (first | exact zG rfl | exact zI rfl rfl (by kernel_rfl)); (focus (first | (go_simp; done) | (go_simp; rfl)))); rintro e wn ⟨rfl, hb⟩; have n_ := ze.mk (AI.o.trans (hb.below.mono AI.o.size)); clear hb AI; have AI := n_; clear n_; refine ⟨_, rfl, AI.o, ?_⟩; go_frame))
  apply S_nil
  go_wp2
  go_ret
  exact yn.of rfl ((A2.o.step AI.o).before B1.o)
set_option maxHeartbeats 8000000 in
set_option maxRecDepth 100000 in
theorem step1 {w0 w : World} {q : Vp} {f : Fp} {r : Rp} {V : VS} {S : MS} {R : RS} (T : Trio w0 w q f r V S R) (o : OpP) (H : OpOk w0 o) (hj : o.kd = 1) :
  Calls Tryz.prog 9 #[vptr q, rptr r, o.val] w (yn w0 w q f r V S) := by
 have HT := ze.mk T
 have HH := ze.mk H
 have HJ := ze.mk hj
 have hu := Tryz.underlying37
 clear T H hj
 go_enter Tryz.func9, Tryz.ntmps9
 go_wp2_with (first
  | ((with_reducible refine zD (N := 5) rfl ?_); refine zC ?hg (N := 5) ?hd (cs := o.cells.toArray) (t := 40) ?hr ?_; (case hd => rfl); (case hg => rfl); (case hr => first | (go_simp; done) | (go_simp; rfl)); intro g hg w1 hbox hb; have X1 := ze.mk (Boxed.mk (q := q) (r := r) hbox (HT.o.off (Nat.le_of_eq hg.symm))); have A1 := ze.mk (HT.o.step hb).acc; have B1 := ze.mk hb; obtain ⟨y0, y1, y2, y3, y4, y5, y6, y7, y8, y9, y10, y11, y12, y13, y14⟩ := OpP.facts hbox; clear hb hbox hg)
  | (go_at_call 22; refine (ZO HH.o A1.o.trio.below HJ.o).mono ?_; rintro e w2 ⟨rfl, hb⟩; have A2 := ze.mk (A1.o.step hb); clear hb y0 y1 y2 y3 y4 y5 y6 y7 y8 y9 y10 y11 y12 y13 y14; obtain ⟨y0, y1, y2, y3, y4, y5, y6, y7, y8, y9, y10, y11, y12, y13, y14⟩ := OpP.facts (X1.o.at A2.o))
  | (go_at_call 24; refine (vCard_acc A2.o o.i HH.o.hi).mono ?_; rintro e w3 ⟨ca, xa, rfl, V3, hA⟩; have A3 := ze.mk hA; clear hA)
  | ((with_reducible refine zD (N := 7) rfl ?_); refine zC ?hg (N := 7) ?hd (cs := Zo.cells.toArray) (t := 37) ?hr ?_; (case hd => rfl); (case hg => rfl); (case hr => first | (go_simp; done) | (go_simp; rfl)); intro ga hga w4 hbox hb; have A4 := ze.mk (A3.o.step hb); have XA4 := ze.mk hbox; have GA := ze.mk (Nat.le_of_eq hga.symm); clear hb hbox hga)
  | ((with_reducible refine zJ (t := 37) (p := 7) rfl ?_); obtain ⟨w5, hs, hb5, t5⟩ := ZA XA4.o rfl ca; refine zH (t := 37) (p := 7) (w1 := w5) rfl rfl rfl (zM rfl rfl rfl hs) ?_; intro w6 hw6; rw [← hw6] at hb5 t5; have A6 := ze.mk (Acc.fresh A3.o A4.o GA.o t5); have C6 := ze.mk A6.o.trio.acc; have XA6 := ze.mk (Boxed.mk hb5 (A3.o.trio.off GA.o)); have XO6 := ze.mk (Boxed.mk (q := q) (r := r) (X1.o.at A6.o) X1.o.off); clear hs hb5 t5 hw6 y0 y1 y2 y3 y4 y5 y6 y7 y8 y9 y10 y11 y12 y13 y14; obtain ⟨y0, y1, y2, y3, y4, y5, y6, y7, y8, y9, y10, y11, y12, y13, y14⟩ := OpP.facts XO6.o.blk)
  | (go_at_call 25; refine (rCard_acc C6.o o.i HH.o.hi).mono ?_; rintro e w7 ⟨cb, xb, rfl, R7, hA⟩; have C7 := ze.mk hA; clear hA)
  | ((with_reducible refine zD (N := 9) rfl ?_); refine zC ?hg (N := 9) ?hd (cs := Zo.cells.toArray) (t := 37) ?hr ?_; (case hd => rfl); (case hg => rfl); (case hr => first | (go_simp; done) | (go_simp; rfl)); intro gb hgb w8 hbox hb; have C8 := ze.mk (C7.o.step hb); have XB8 := ze.mk hbox; have GB := ze.mk (Nat.le_of_eq hgb.symm); clear hb hbox hgb)
  | ((with_reducible refine zJ (t := 37) (p := 9) rfl ?_); obtain ⟨w9, hs, hb9, t9⟩ := ZA XB8.o rfl cb; refine zH (t := 37) (p := 9) (w1 := w9) rfl rfl rfl (zM rfl rfl rfl hs) ?_; intro wa hwa; rw [← hwa] at hb9 t9; have Ca := ze.mk (Acc.fresh C7.o C8.o GB.o t9); obtain ⟨u0, u1, u2, u3, u4, u5, u6, u7, u8, u9⟩ := Crd.facts hb9; obtain ⟨v0, v1, v2, v3, v4, v5, v6, v7, v8, v9⟩ := Crd.facts (XA6.o.at Ca.o); clear hs hb9 t9 hwa; obtain ⟨bb, hbb⟩ : ∃ b, (ca.k == cb.k && (ca.l == cb.l && (ca.s == cb.s && (ca.v == cb.v && ((ca.d0 == cb.d0 && (ca.d1 == cb.d1 && (ca.d2 == cb.d2 && (ca.d3 == cb.d3 && (ca.d4 == cb.d4))))) && (ca.m == cb.m)))))) = b := ⟨_, rfl⟩))
 all_goals (
  go_ret
  exact yn.of rfl ((A6.o.trans Ca.o).before B1.o))
theorem step_any {w0 w : World} {q : Vp} {f : Fp} {r : Rp} {V : VS} {S : MS} {R : RS} (T : Trio w0 w q f r V S R) (o : OpP) (H : OpOk w0 o) :
  Calls Tryz.prog 9 #[vptr q, rptr r, o.val] w (yn w0 w q f r V S) := by
 have h := o.kd_in
 have h2 : o.kd = 0 ∨ o.kd = 1 ∨ o.kd = 2 ∨ o.kd = 3 ∨ o.kd = 4 ∨ o.kd = 5 ∨ o.kd = 6 ∨ o.kd = 7 ∨ o.kd = 8 := by omega
 rcases h2 with h | h | h | h | h | h | h | h | h
 ·exact step0 T o H h
 ·exact step1 T o H h
 ·exact step2 T o H h
 ·exact step3 T o H h
 ·exact step4 T o H h
 ·exact step5 T o H h
 ·exact step6 T o H h
 ·exact step7 T o H h
 ·exact step8 T o H h
end Go.Proofs.YtkbhilhefnahpaaGreat.Rf
