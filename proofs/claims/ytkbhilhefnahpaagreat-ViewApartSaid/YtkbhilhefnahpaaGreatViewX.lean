/- ViewA, ViewB, ViewC, ViewD, ViewE, ViewF in one text. -/
import Derived.Handy
import Derived.Test.YtkbhilhefnahpaaGreatMemX
import Derived.Test.YtkbhilhefnahpaaGreatPlanF
namespace Go.Proofs.YtkbhilhefnahpaaGreat.Vw
open Go Go.RowKit Go.Proofs.YtkbhilhefnahpaaGreat.ML Go.Proofs.YtkbhilhefnahpaaGreat.Mem Go.Proofs.YtkbhilhefnahpaaGreatW.PrintWords
set_option linter.unusedVariables false
set_option linter.unusedSimpArgs false
theorem nt : MT Tryz.prog 60 3 4 := ⟨Tryz.underlying60, Tryz.underlying3⟩
theorem zrunB (w : World) : (zeroValue 4).run Tryz.prog w = .ok (.bool false) w := by kernel_rfl
noncomputable def ekb : EK Tryz.prog 4 Bool := ekBool Tryz.underlying4 zrunB
structure Vp where
 p : Nat
 bo : Nat
 bs : Nat
 bm : Nat
 ba : Option Nat
 bn : Option Nat
structure VS where
 own : List (Int × Int)
 seen : List (Int × Bool)
 mine : List (Int × Bool)
 away : List (Int × Bool)
 awayN : List (Int × Bool)
abbrev vptr (q : Vp) : Value := .pointer (some ⟨q.p, 0, none⟩)
def Vp.list (q : Vp) : List Nat := [q.p, q.bo, q.bs, q.bm] ++ q.ba.toList ++ q.bn.toList
def IsMo (w : World) (o : Option Nat) (m : List (Int × Bool)) : Prop := match o with | none => m = [] | some b => IsM ekb 3 w b m
theorem IsMo.lt {w : World} {o : Option Nat} {m : List (Int × Bool)} (h : IsMo w o m) : ∀ b ∈ o.toList, b < w.heap.size := by
 intro b hb
 cases o with
 | none => cases hb
 | some c =>
  obtain rfl : b = c := by simpa using hb
  exact IsM.lt h
theorem IsMo.block {w w' : World} {o : Option Nat} {m : List (Int × Bool)} (h : IsMo w o m) (hb : ∀ b ∈ o.toList, w'.heap[b]? = w.heap[b]?) : IsMo w' o m := by
 cases o with
 | none => exact h
 | some c => exact IsM.block (x := ekb) h (hb c (by simp))
structure VS.Ok (V : VS) : Prop where
 own : ∀ y ∈ V.own, 0 ≤ y.1 ∧ y.1 < 2824 ∧ okw y.2
 seen : ∀ y ∈ V.seen, 0 ≤ y.1 ∧ y.1 < 24
 mine : ∀ y ∈ V.mine, 0 ≤ y.1 ∧ y.1 < 24
structure zR (w : World) (q : Vp) (f : Fp) (V : VS) : Prop where
 ok : V.Ok
 cells : w.heap[q.p]? = some (.cells #[.pointer (some ⟨f.p, 0, none⟩), .map (some q.bo), .map (some q.bs), .map (some q.bm), .map q.ba, .map q.bn] 62 (0, 0))
 own : IsM ek 3 w q.bo V.own
 seen : IsM ekb 3 w q.bs V.seen
 mine : IsM ekb 3 w q.bm V.mine
 away : IsMo w q.ba V.away
 awayN : IsMo w q.bn V.awayN
 os : q.bo ≠ q.bs
 om : q.bo ≠ q.bm
 sm : q.bs ≠ q.bm
 apart : ∀ b ∈ q.ba.toList ++ q.bn.toList, b ≠ q.bo ∧ b ≠ q.bs ∧ b ≠ q.bm
theorem zR.lts {w : World} {q : Vp} {f : Fp} {V : VS} (h : zR w q f V) : ∀ b ∈ q.list, b < w.heap.size := by
 intro b hb
 simp only [Vp.list, List.mem_append, List.mem_cons, List.not_mem_nil, or_false] at hb
 rcases hb with ((rfl | rfl | rfl | rfl) | hb) | hb
 ·exact (Array.getElem?_eq_some_iff.1 h.cells).1
 ·exact h.own.lt
 ·exact h.seen.lt
 ·exact h.mine.lt
 ·exact h.away.lt b hb
 ·exact h.awayN.lt b hb
theorem zR.Zw {w w' : World} {q : Vp} {f : Fp} {V : VS} (h : zR w q f V) (hb : ∀ b ∈ q.list, w'.heap[b]? = w.heap[b]?) : zR w' q f V :=
 ⟨h.ok, (hb q.p (by simp [Vp.list])).trans h.cells, h.own.block (hb _ (by simp [Vp.list])), h.seen.block (hb _ (by simp [Vp.list])), h.mine.block (hb _ (by simp [Vp.list])),
  h.away.block fun b hm => hb b (by simp only [Vp.list, List.mem_append]; exact .inl (.inr hm)), h.awayN.block fun b hm => hb b (by simp only [Vp.list, List.mem_append]; exact .inr hm), h.os, h.om, h.sm, h.apart⟩
theorem zR.kept {w w' : World} {q : Vp} {f : Fp} {V : VS} (h : zR w q f V) {L : List Nat} (ht : Turn L w w') (hL : ∀ b ∈ q.list, b ∉ L) : zR w' q f V :=
 h.Zw fun b hb => ht.block b (h.lts b hb) (hL b hb)
theorem zR.below {w w' : World} {q : Vp} {f : Fp} {V : VS} (h : zR w q f V) (hb : Below w.heap.size w w') : zR w' q f V :=
 h.Zw fun b hm => hb.block b (h.lts b hm)
theorem zR.own_len {w : World} {q : Vp} {f : Fp} {V : VS} (h : zR w q f V) : V.own.length ≤ 2824 :=
 length_le (n := 2824) (lo := 0) (h.own.sorted mt) fun x hx => ⟨(h.ok.own x hx).1, by have := (h.ok.own x hx).2.1; omega⟩
/-- What a walk is handed. -/
structure zR.Facts (w : World) (q : Vp) (f : Fp) : Prop where
 c0 : w.cell? ⟨q.p, 0, none⟩ = some (.pointer (some ⟨f.p, 0, none⟩))
 c1 : w.cell? ⟨q.p, 1, none⟩ = some (.map (some q.bo))
 c2 : w.cell? ⟨q.p, 2, none⟩ = some (.map (some q.bs))
 c3 : w.cell? ⟨q.p, 3, none⟩ = some (.map (some q.bm))
 c4 : w.cell? ⟨q.p, 4, none⟩ = some (.map q.ba)
 c5 : w.cell? ⟨q.p, 5, none⟩ = some (.map q.bn)
 fz : ∀ o, w.frozen? ⟨q.p, o, none⟩ = false
theorem zR.facts {w : World} {q : Vp} {f : Fp} {V : VS} (h : zR w q f V) : zR.Facts w q f :=
 ⟨cell_of h.cells rfl, cell_of h.cells rfl, cell_of h.cells rfl, cell_of h.cells rfl, cell_of h.cells rfl, cell_of h.cells rfl, fun _ => ZC h.cells⟩
/-- A word as the view has it. -/
def VS.read (V : VS) (S : MS) (i : Int) : Int := (get V.own i).getD (S.read i)
set_option maxHeartbeats 400000 in
theorem Zr {w : World} {q : Vp} {f : Fp} {V : VS} {S : MS} (h : zR w q f V) (hm : IsMem w f S) (i : Int) (hi : oki i) : Calls Tryz.prog 11 #[vptr q, .int .i64 i] w fun e w' => e = .returned (.int .u64 (V.read S i)) ∧ w = w' := by
 have hr := Mem.Zr hm i hi
 have H := h.facts
 have c0 := H.c0
 have c1 := H.c1
 have HL := ze.mk h.own
 have HI := ze.mk hi
 unfold VS.read
 cases hg : get V.own i with
 | some v =>
  have HG := ze.mk hg
  clear H h hg hi hr
  go_enter Tryz.func11, Tryz.ntmps11
  go_wp2_with (at_lookup; refine lookU_some rfl _ _ rfl rfl HL.o i rfl HI.o v HG.o ?_)
  go_ret
  exact ⟨rfl, rfl⟩
 | none =>
  have HG := ze.mk hg
  clear H h hg hi
  go_enter Tryz.func11, Tryz.ntmps11
  go_wp2_with (first
   | (at_lookup; refine lookU_none rfl _ _ rfl rfl HL.o i rfl HI.o HG.o ?_)
   | (go_at_call 12; refine hr.mono ?_; rintro e w' ⟨rfl, rfl⟩))
  go_ret
  exact ⟨rfl, rfl⟩
theorem Read_as {w : World} {q : Vp} {f : Fp} {V : VS} {S : MS} (h : zR w q f V) (hm : IsMem w f S) (i : Int) (hi : oki i) (v : Int) (hv : V.read S i = v) : Calls Tryz.prog 11 #[vptr q, .int .i64 i] w fun e w' => e = .returned (.int .u64 v) ∧ w = w' := by
 rw [← hv]
 exact Zr h hm i hi
/-- Is a number noted? -/
def noted (m : List (Int × Bool)) (i : Int) : Bool := (get m i).getD false
section
variable {ops : Array Oper} {rest : List Oper} {o : Oper} {a : Act} {Q : Exit → Act → World → Prop} {w : World}
theorem lookB (hg : o.guard = none) (mo xo : Operand) (b : Option Nat) (m : List (Int × Bool)) (hop : o.op = Op.lookup 60 mo xo false) (hm : a.eval mo = .map b) (h : IsMo w b m) (key : Int) (hx : a.eval xo = .int .i64 key) (hkey : oki key)
  (hK : wpList Tryz.prog ops Q rest (a.put o.dst (.bool (noted m key))) w) : wpList Tryz.prog ops Q (o :: rest) a w := by
 cases b with
 | none =>
  have hm0 : m = [] := h
  subst hm0
  refine wpList_plain hg fun K hK' => ?_
  unfold Oper.wp execOp
  simp only [hop, hm, hx]
  have := run_look_nil nt ekb w key (YF hkey) false
  simp only [Sem.run_bind, this, Result.andThen_ok, Sem.run_pure]
  exact hK' _ _ hK
 | some b => exact wp_look (x := ekb) nt hg mo xo hop hm h key hx (YF hkey) hK
end
set_option maxHeartbeats 400000 in
theorem Avoids_calls {w : World} {q : Vp} {f : Fp} {V : VS} (h : zR w q f V) (i : Int) (hi : oki i) : Calls Tryz.prog 35 #[vptr q, .int .i64 i] w fun e w' => e = .returned (.bool (noted V.away i)) ∧ w = w' := by
 have c4 := h.facts.c4
 have HL := ze.mk h.away
 have HI := ze.mk hi
 clear h hi
 go_enter Tryz.func35, Tryz.ntmps35
 go_wp2_with (at_lookup; refine gate_guard (by rfl) ?_; dsimp only; refine lookB rfl _ _ _ _ rfl rfl HL.o i rfl HI.o ?_)
 go_ret
 exact ⟨rfl, rfl⟩
set_option maxHeartbeats 400000 in
theorem YZ {w : World} {q : Vp} {f : Fp} {V : VS} (h : zR w q f V) (i : Int) (hi : oki i) : Calls Tryz.prog 37 #[vptr q, .int .i64 i] w fun e w' => e = .returned (.bool (noted V.awayN i)) ∧ w = w' := by
 have c5 := h.facts.c5
 have HL := ze.mk h.awayN
 have HI := ze.mk hi
 clear h hi
 go_enter Tryz.func37, Tryz.ntmps37
 go_wp2_with (at_lookup; refine gate_guard (by rfl) ?_; dsimp only; refine lookB rfl _ _ _ _ rfl rfl HL.o i rfl HI.o ?_)
 go_ret
 exact ⟨rfl, rfl⟩
end Go.Proofs.YtkbhilhefnahpaaGreat.Vw
namespace Go.Proofs.YtkbhilhefnahpaaGreat.Vw
open Go Go.RowKit Go.Proofs.YtkbhilhefnahpaaGreat.ML Go.Proofs.YtkbhilhefnahpaaGreat.Mem Go.Proofs.YtkbhilhefnahpaaGreat.Print Go.Proofs.YtkbhilhefnahpaaGreatW.PrintWords Go.Proofs.YtkbhilhefnahpaaGreatW.PrintLast Go.Proofs.YtkbhilhefnahpaaGreatW.PrintMore
set_option linter.unusedVariables false
set_option linter.unusedSimpArgs false
theorem ZN {w : World} {f : Fp} {S : MS} (h : IsMem w f S) (i : Int) (hi : oki i) (v : Int) (hv : S.read i = v) : Calls Tryz.prog 12 #[ptr f, .int .i64 i] w fun e w' => e = .returned (.int .u64 v) ∧ w = w' := by
 rw [← hv]
 exact Mem.Zr h i hi
theorem YM {w : World} {q : Vp} {f : Fp} {V : VS} (h : zR w q f V) (i : Int) (hi : oki i) (b : Bool) (hb : noted V.away i = b) : Calls Tryz.prog 35 #[vptr q, .int .i64 i] w fun e w' => e = .returned (.bool b) ∧ w = w' := by
 rw [← hb]
 exact Avoids_calls h i hi
/-- Is a block free for the view? -/
def VS.fresh (V : VS) (S : MS) (i : Int) : Bool := decide (0 ≤ i ∧ i < 96) && (S.read (200 + i) == 0) && (V.read S (200 + i) == 0) && !noted V.away i
set_option maxHeartbeats 1000000 in
theorem Yo {w : World} {q : Vp} {f : Fp} {V : VS} {S : MS} (h : zR w q f V) (hm : IsMem w f S) (i : Int) (hi : oki i) : Calls Tryz.prog 17 #[vptr q, .int .i64 i] w fun e w' => e = .returned (.bool (V.fresh S i)) ∧ Below w.heap.size w w' := by
 unfold VS.fresh
 by_cases hr : 0 ≤ i ∧ i < 96
 ·rw [decide_eq_true hr]
  have ho := plan_Owner.calls 7 i (200 + i) 0 w (by rw [PlanF.Owner_f, PlanF.Owner, if_pos hr])
  have HI := ze.mk hi
  have HR := ze.mk hr
  obtain ⟨x, hx⟩ : ∃ x, S.read (200 + i) = x := ⟨_, rfl⟩
  obtain ⟨y, hy⟩ : ∃ y, V.read S (200 + i) = y := ⟨_, rfl⟩
  obtain ⟨z, hz⟩ : ∃ z, noted V.away i = z := ⟨_, rfl⟩
  rw [hx, hy, hz]
  have HX := ze.mk hx
  have HY := ze.mk hy
  have HZ := ze.mk hz
  have HV := ze.mk h
  have HM := ze.mk hm
  clear hx hy hz hi hr h hm
  cases h1 : (x == 0)
  ·go_enter Tryz.func17, Tryz.ntmps17
   go_wp2_with (first
    | (go_at_call 46; refine ho.mono ?_; rintro e w1 ⟨rfl, hb⟩; have V1 := ze.mk (HV.o.below hb); have M1 := ze.mk (HM.o.below hb); have B1 := ze.mk hb; have c0 := V1.o.facts.c0; clear hb)
    | (go_at_call 12; refine (ZN M1.o _ (by have := HR.o; unfold oki; omega) x HX.o).mono ?_; rintro e w2 ⟨rfl, rfl⟩))
   go_ret
   exact ⟨rfl, B1.o⟩
  ·cases h2 : (y == 0)
   ·go_enter Tryz.func17, Tryz.ntmps17
    go_wp2_with (first
     | (go_at_call 46; refine ho.mono ?_; rintro e w1 ⟨rfl, hb⟩; have V1 := ze.mk (HV.o.below hb); have M1 := ze.mk (HM.o.below hb); have B1 := ze.mk hb; have c0 := V1.o.facts.c0; clear hb)
     | (go_at_call 12; refine (ZN M1.o _ (by have := HR.o; unfold oki; omega) x HX.o).mono ?_; rintro e w2 ⟨rfl, rfl⟩)
     | (go_at_call 11; refine (Read_as V1.o M1.o _ (by have := HR.o; unfold oki; omega) y HY.o).mono ?_; rintro e w2 ⟨rfl, rfl⟩))
    go_ret
    exact ⟨rfl, B1.o⟩
   ·go_enter Tryz.func17, Tryz.ntmps17
    go_wp2_with (first
     | (go_at_call 46; refine ho.mono ?_; rintro e w1 ⟨rfl, hb⟩; have V1 := ze.mk (HV.o.below hb); have M1 := ze.mk (HM.o.below hb); have B1 := ze.mk hb; have c0 := V1.o.facts.c0; clear hb)
     | (go_at_call 12; refine (ZN M1.o _ (by have := HR.o; unfold oki; omega) x HX.o).mono ?_; rintro e w2 ⟨rfl, rfl⟩)
     | (go_at_call 11; refine (Read_as V1.o M1.o _ (by have := HR.o; unfold oki; omega) y HY.o).mono ?_; rintro e w2 ⟨rfl, rfl⟩)
     | (go_at_call 35; refine (YM V1.o _ HI.o z HZ.o).mono ?_; rintro e w2 ⟨rfl, rfl⟩))
    go_ret
    exact ⟨rfl, B1.o⟩
 ·rw [decide_eq_false hr]
  have ho := plan_Owner.calls 7 i 0 1 w (by rw [PlanF.Owner_f, PlanF.Owner, if_neg hr])
  clear hr hi h hm
  go_enter Tryz.func17, Tryz.ntmps17
  go_wp2_with (go_at_call 46; refine ho.mono ?_; rintro e w1 ⟨rfl, hb⟩; have B1 := ze.mk hb; clear hb)
  go_ret
  exact ⟨rfl, B1.o⟩
theorem Xd {w : World} {q : Vp} {f : Fp} {V : VS} {S : MS} (h : zR w q f V) (hm : IsMem w f S) (i : Int) (hi : oki i) (b : Bool) (hb : V.fresh S i = b) : Calls Tryz.prog 17 #[vptr q, .int .i64 i] w fun e w' => e = .returned (.bool b) ∧ Below w.heap.size w w' := by
 rw [← hb]
 exact Yo h hm i hi
/-- Write. -/
def VS.put (V : VS) (i v : Int) : VS := { V with own := ML.put V.own i v }
theorem VS.put_ok {V : VS} (h : V.Ok) {i v : Int} (h0 : 0 ≤ i) (h1 : i < 2824) (hv : okw v) : (V.put i v).Ok := by
 refine ⟨fun y hy => ?_, h.seen, h.mine⟩
 rcases mem_ins.1 hy with rfl | hy
 ·exact ⟨h0, h1, hv⟩
 ·exact h.own y (List.mem_filter.1 hy).1
theorem zR.turnOwn {w w' : World} {q : Vp} {f : Fp} {V : VS} (h : zR w q f V) {i v : Int} (h0 : 0 ≤ i) (h1 : i < 2824) (hv : okw v) (ht : w.mapTurned w' q.bo) (hm : IsM ek 3 w' q.bo (ML.put V.own i v)) : zR w' q f (V.put i v) ∧ Turn [q.bo] w w' := by
 have t := Turn.Zt (ZB ht)
 have hp : q.p ≠ q.bo := h.own.Zi h.cells
 have kb : ∀ b, b < w.heap.size → b ≠ q.bo → w'.heap[b]? = w.heap[b]? := fun b hb hn => t.block b hb (by simpa using hn)
 refine ⟨⟨VS.put_ok h.ok h0 h1 hv, (kb _ (h.lts _ (by simp [Vp.list])) hp).trans h.cells, hm, h.seen.block (kb _ h.seen.lt h.os.symm), h.mine.block (kb _ h.mine.lt h.om.symm),
  h.away.block fun b hb => kb b (h.away.lt b hb) (h.apart b (List.mem_append.2 (.inl hb))).1, h.awayN.block fun b hb => kb b (h.awayN.lt b hb) (h.apart b (List.mem_append.2 (.inr hb))).1, h.os, h.om, h.sm, h.apart⟩, t⟩
set_option maxHeartbeats 1000000 in
theorem ZP {w : World} {q : Vp} {f : Fp} {V : VS} (h : zR w q f V) (i v : Int) (hi : oki i) (hv : okw v) : Calls Tryz.prog 16 #[vptr q, .int .i64 i, .int .u64 v] w fun e w' =>
  e = .returned (.int .i64 (if PlanF.openB i then 0 else 1)) ∧ zR w' q f (if PlanF.openB i then V.put i v else V) ∧ Turn [q.bo] w w' := by
 have ho := plan_Open.calls 7 i (PlanF.openB i) w (PlanF.Open_f i hi.1 hi.2)
 cases hb : PlanF.openB i
 ·rw [hb] at ho
  have HV := ze.mk h
  clear h
  go_enter Tryz.func16, Tryz.ntmps16
  go_wp2_with (go_at_call 45; refine ho.mono ?_; rintro e w1 ⟨rfl, hb⟩; have B1 := ze.mk hb; clear hb)
  go_ret
  exact ⟨rfl, HV.o.below B1.o, Turn.of_below B1.o _⟩
 ·rw [hb] at ho
  have hr : 0 ≤ i ∧ i < 2824 := by unfold PlanF.openB at hb; have := of_decide_eq_true hb; omega
  have HR := ze.mk hr
  have HV := ze.mk h
  have HI := ze.mk hi
  have HW := ze.mk hv
  clear h hr hi hv
  go_enter Tryz.func16, Tryz.ntmps16
  go_wp2_with (first
   | (go_at_call 45; refine ho.mono ?_; rintro e w1 ⟨rfl, hb⟩; have V1 := ze.mk (HV.o.below hb); have B1 := ze.mk hb; have c1 := V1.o.facts.c1; clear hb)
   | (at_mapUpdate; refine wp_put (x := ek) mt rfl _ _ _ rfl rfl V1.o.own (by have := V1.o.own_len; omega) i v rfl rfl (YF HI.o) (okw_wf HW.o) ?_; intro w2 hm2 ht2; obtain ⟨r1, r2⟩ := V1.o.turnOwn HR.o.1 HR.o.2 HW.o ht2 hm2; have R1 := ze.mk r1; have R2 := ze.mk r2; clear r1 r2 hm2 ht2))
  go_ret
  exact ⟨rfl, R1.o, (Turn.of_below B1.o _).trans R2.o⟩
end Go.Proofs.YtkbhilhefnahpaaGreat.Vw
namespace Go.Proofs.YtkbhilhefnahpaaGreat.Vw
open Go Go.RowKit Go.Proofs.YtkbhilhefnahpaaGreat.ML Go.Proofs.YtkbhilhefnahpaaGreat.Mem Go.Proofs.YtkbhilhefnahpaaGreat.Print Go.Proofs.YtkbhilhefnahpaaGreatW.PrintWords Go.Proofs.YtkbhilhefnahpaaGreatW.PrintLast Go.Proofs.YtkbhilhefnahpaaGreatW.PrintMore
set_option linter.unusedVariables false
set_option linter.unusedSimpArgs false
def newV : VS := ⟨[], [], [], [], []⟩
theorem newV_ok : newV.Ok := ⟨fun y hy => by (cases hy), fun y hy => by (cases hy), fun y hy => by (cases hy)⟩
theorem made_view (w : World) (f : Fp) : ∃ q : Vp, q.p = w.heap.size + 3 ∧ (∀ b ∈ q.list, w.heap.size ≤ b) ∧ zR ((((w.alloc (.map #[] 0)).alloc (.map #[] 0)).alloc (.map #[] 0)).alloc (.cells #[.pointer (some ⟨f.p, 0, none⟩), .map (some w.heap.size), .map (some (w.heap.size + 1)), .map (some (w.heap.size + 2)), .map none, .map none] 62 (0, 0))) q f newV := by
 have s1 : (w.alloc (.map #[] 0)).heap.size = w.heap.size + 1 := by simp
 have s2 : ((w.alloc (.map #[] 0)).alloc (.map #[] 0)).heap.size = w.heap.size + 2 := by simp
 have s3 : (((w.alloc (.map #[] 0)).alloc (.map #[] 0)).alloc (.map #[] 0)).heap.size = w.heap.size + 3 := by simp
 refine ⟨⟨w.heap.size + 3, w.heap.size, w.heap.size + 1, w.heap.size + 2, none, none⟩, rfl, fun b hb => ?_, ⟨newV_ok, ?_, ?_, ?_, ?_, rfl, rfl, by simp, by simp, by simp, fun b hb => by simp at hb⟩⟩
 ·simp [Vp.list] at hb
  omega
 ·have := heap_new (((w.alloc (.map #[] 0)).alloc (.map #[] 0)).alloc (.map #[] 0)) (.cells #[.pointer (some ⟨f.p, 0, none⟩), .map (some w.heap.size), .map (some (w.heap.size + 1)), .map (some (w.heap.size + 2)), .map none, .map none] 62 (0, 0))
  rw [s3] at this
  exact this
 ·refine IsM.block (w := w.alloc (.map #[] 0)) (IsM.made w) ?_
  rw [yO _ _ (by rw [s3]; simp), yO _ _ (by rw [s2]; simp), yO _ _ (by rw [s1]; simp)]
 ·have hm := IsM.made (x := ekb) (k := 3) (w.alloc (.map #[] 0))
  rw [s1] at hm
  refine IsM.block hm ?_
  rw [yO _ _ (by rw [s3]; simp), yO _ _ (by rw [s2]; simp)]
 ·have hm := IsM.made (x := ekb) (k := 3) ((w.alloc (.map #[] 0)).alloc (.map #[] 0))
  rw [s2] at hm
  refine IsM.block hm ?_
  rw [yO _ _ (by rw [s3]; simp)]
set_option maxHeartbeats 1000000 in
theorem YJ {w : World} {f : Fp} {S : MS} (h : IsMem w f S) (hl : (S.ws.length : Int) = 2824) : Calls Tryz.prog 7 #[ptr f] w fun e w' => ∃ q : Vp, e = .returned (vptr q) ∧ zR w' q f newV ∧ (∀ b ∈ q.list, w.heap.size ≤ b) ∧ Below w.heap.size w w' := by
 have hz := Size_calls h
 have hp := fun w => plan_Size.calls 7 2824 w PlanF.size_f
 rw [hl] at hz
 have HZ := ze.mk hz
 have HP := ze.mk hp
 have hmm := @run_makeMap Tryz.prog
 have MV := ze.mk (fun w1 : World => made_view w1 f)
 clear hz hp h hl
 go_enter Tryz.func7, Tryz.ntmps7
 go_wp2_with (first
  | (go_at_call 20; refine HZ.o.mono ?_; rintro e w' ⟨rfl, rfl⟩)
  | (go_at_call 21; refine (HP.o _).mono ?_; rintro e w1 ⟨rfl, hb⟩; obtain ⟨q, q1, q2, q3⟩ := MV.o w1; have B1 := ze.mk hb; have Q1 := ze.mk q1; have Q2 := ze.mk q2; have Q3 := ze.mk q3; clear hb q1 q2 q3))
 go_ret
 exact ⟨q, by simp only [vptr, Q1.o]; rfl, Q3.o, fun b hb => Nat.le_trans B1.o.size (Q2.o b hb), (((B1.o.alloc B1.o.size _).alloc (by have := B1.o.size; simp; omega) _).alloc (by have := B1.o.size; simp; omega) _).alloc (by have := B1.o.size; simp; omega) _⟩
end Go.Proofs.YtkbhilhefnahpaaGreat.Vw
namespace Go.Proofs.YtkbhilhefnahpaaGreat.Vw
open Go Go.RowKit Go.Proofs.YtkbhilhefnahpaaGreat.ML Go.Proofs.YtkbhilhefnahpaaGreat.Mem Go.Proofs.YtkbhilhefnahpaaGreat.Print Go.Proofs.YtkbhilhefnahpaaGreatW.PrintWords Go.Proofs.YtkbhilhefnahpaaGreatW.PrintLast Go.Proofs.YtkbhilhefnahpaaGreatW.PrintMore
set_option linter.unusedVariables false
set_option linter.unusedSimpArgs false
def noteM (l : List Int) : List (Int × Bool) := l.foldl (fun m k => ML.put m k true) []
theorem noteM_snoc (l : List Int) (k : Int) : noteM (l ++ [k]) = ML.put (noteM l) k true := by simp [noteM]
theorem noteM_len (l : List Int) : (noteM l).length ≤ l.length := by
 have : ∀ (l : List Int) (m : List (Int × Bool)), (l.foldl (fun m k => ML.put m k true) m).length ≤ m.length + l.length := by
  intro l
  induction l with
  | nil => intro m; simp
  | cons k r ih =>
   intro m
   have h1 := ih (ML.put m k true)
   have h2 := length_put m k true
   simp only [List.foldl_cons, List.length_cons]
   omega
 have := this l []
 simpa [noteM] using this
open Go.Maps Go.ChangeMaps Go.MapKept Go.WideElems in
theorem wp_putB {α : Type} {P : Program} {e t k : TypeId} {x : EK P e α} {ops : Array Oper} {rest : List Oper} {o : Oper} {a : Act} {Q : Exit → Act → World → Prop} {w : World} {b : Nat} {m : List (Int × α)} (T : MT P t k e) (hg : o.guard = none) (mo xo vo : Operand) (hop : o.op = Op.mapUpdate t mo xo vo) (hm : a.eval mo = .map (some b)) (h : IsM x k w b m) (hn : m.length < 9223372036854775807) (key : Int) (v : α) (hx : a.eval xo = .int .i64 key) (hv : a.eval vo = x.val v) (hkey : (Lit.int .i64 key).wf = true) (hok : x.ok v)
  (hK : ∀ w', IsM x k w' b (put m key v) → w.mapTurned w' b → wpList P ops Q rest (a.put o.dst undef) w') : wpList P ops Q (o :: rest) a w :=
 wpList_mapUpdate_in w hg mo xo vo t hop k e T.keyed T.ht (plainElem P e) b m.length (D x m) hm h (by unfold maxLen; omega) _ _ _ hx hv (Go.Maps.keyOf_int_mk T.hk hkey) (.lit (x.lit v)) [] (x.plain _ hok) (fun w' h1 h2 => hK w' (IsM.of (by rw [← D_put]; exact h1)) h2)
set_option maxHeartbeats 1000000 in
theorem note_calls {w : World} {A : Option Addr} {c : Nat} {l : List Int} (hr : Kd.C (Kd.int .i64) w A l.length l) (hl : l.length ≤ 9223372036854775807) (hi : ∀ k ∈ l, oki k) :
  Calls Tryz.prog 58 #[.slice A l.length c] w fun e w' => ∃ b : Nat, e = .returned (.map (some b)) ∧ IsM ekb 3 w' b (noteM l) ∧ w.heap.size ≤ b ∧ Below w.heap.size w w' := by
 have hmm := @run_makeMap Tryz.prog
 have HR := ze.mk hr
 have HI := ze.mk hi
 have HM0 := ze.mk (IsM.made (x := ekb) (k := 3) w)
 have HB0 := ze.mk ((Below.refl w.heap.size w).alloc (Nat.le_refl _) (.map #[] 0))
 clear hr hi
 go_enter Tryz.func58, Tryz.ntmps58
 go_wp2
 go_loopw [9] (fun x wr => ∃ j : Nat, j ≤ l.length ∧ x = .int .i64 (j : Int) ∧ IsM ekb 3 wr w.heap.size (noteM (l.take j)) ∧ Below w.heap.size w wr) (fun x _ => l.length - (intOf x).toNat)
 case atStart => exact ⟨0, by omega, rfl, HM0.o, HB0.o⟩
 case round =>
  obtain ⟨j, hj, rfl, hm, hb⟩ := hrel
  have HM := ze.mk hm
  have HB := ze.mk hb
  clear hm hb
  by_cases hlt : j < l.length
  ·obtain ⟨ad, hA, hx⟩ := Kd.zX (Kd.zZ HR.o HB.o) (j : Int) (by omega) (by omega)
   obtain ⟨k, hk⟩ : ∃ k, l[j]? = some k := ⟨_, List.getElem?_eq_getElem hlt⟩
   have hkd : rd l (j : Int) = k := by unfold rd; rw [Int.toNat_natCast, List.getD_eq_getElem?_getD, hk]; rfl
   have hko := HI.o k (List.mem_of_getElem? hk)
   have ht : l.take (j + 1) = l.take j ++ [k] := by rw [List.take_add_one, hk]; rfl
   rw [hkd] at hx
   replace hx : wr.cell? (ad.add j) = some (.int .i64 k) := by simpa using hx
   subst hA
   have HK := ze.mk hko
   have HT := ze.mk ht
   clear hkd hko ht hk
   go_wp2_with (at_mapUpdate; refine wp_putB (x := ekb) nt rfl _ _ _ rfl rfl HM.o (by have := noteM_len (l.take j); rw [List.length_take] at this; omega) k true rfl rfl (YF HK.o) trivial ?_; intro w2 hm2 ht2; have HM2 := ze.mk hm2; have T2 := ze.mk (ZB ht2); clear hm2 ht2)
   go_roundw
   case rel =>
    refine ⟨j + 1, by omega, by go_num, ?_, ?_⟩
    ·rw [HT.o, noteM_snoc]; exact HM2.o
    ·exact HB.o.grown T2.o HB.o.size (by intro b hb; simp at hb; omega)
   case measure => simp [intOf]; omega
  ·obtain rfl : j = l.length := by omega
   clear hlt hj
   go_wp2
   go_ret
   exact ⟨_, rfl, by have := HM.o; rw [List.take_length] at this; exact this, Nat.le_refl _, HB.o⟩
def Vp.avoid (q : Vp) (b1 b2 : Nat) : Vp := { q with ba := some b1, bn := some b2 }
def VS.avoid (V : VS) (l1 l2 : List Int) : VS := { V with away := noteM l1, awayN := noteM l2 }
theorem zR.setAway {w : World} {q : Vp} {f : Fp} {V : VS} (h : zR w q f V) {b1 b2 : Nat} {l1 l2 : List Int} (h1 : IsM ekb 3 w b1 (noteM l1)) (h2 : IsM ekb 3 w b2 (noteM l2)) (n1 : ∀ b ∈ q.list, b ≠ b1) (n2 : ∀ b ∈ q.list, b ≠ b2) :
  zR ((w.setCell ⟨q.p, 4, none⟩ (.map (some b1))).setCell ⟨q.p, 5, none⟩ (.map (some b2))) (q.avoid b1 b2) f (V.avoid l1 l2) ∧ Turn [q.p] w ((w.setCell ⟨q.p, 4, none⟩ (.map (some b1))).setCell ⟨q.p, 5, none⟩ (.map (some b2))) := by
 have t := (Turn.setCell w ⟨q.p, 4, none⟩ (.map (some b1))).trans (Turn.setCell (w.setCell ⟨q.p, 4, none⟩ (.map (some b1))) ⟨q.p, 5, none⟩ (.map (some b2)))
 have hs := yu (o := 5) (.map (some b2)) (yu (o := 4) (.map (some b1)) h.cells)
 have kb : ∀ b, b < w.heap.size → b ≠ q.p → ((w.setCell ⟨q.p, 4, none⟩ (.map (some b1))).setCell ⟨q.p, 5, none⟩ (.map (some b2))).heap[b]? = w.heap[b]? := fun b hb hn => t.block b hb (by simpa using hn)
 have no := h.own.Zi h.cells
 have ns := h.seen.Zi h.cells
 have nm := h.mine.Zi h.cells
 have p1 := h1.Zi h.cells
 have p2 := h2.Zi h.cells
 refine ⟨⟨⟨h.ok.own, h.ok.seen, h.ok.mine⟩, hs, h.own.block (kb _ h.own.lt no.symm), h.seen.block (kb _ h.seen.lt ns.symm), h.mine.block (kb _ h.mine.lt nm.symm), h1.block (kb _ h1.lt p1.symm), h2.block (kb _ h2.lt p2.symm), h.os, h.om, h.sm, fun b hb => ?_⟩, t⟩
 have hb' : b = b1 ∨ b = b2 := by simpa [Vp.avoid] using hb
 rcases hb' with rfl | rfl
 ·exact ⟨(n1 q.bo (by simp [Vp.list])).symm, (n1 q.bs (by simp [Vp.list])).symm, (n1 q.bm (by simp [Vp.list])).symm⟩
 ·exact ⟨(n2 q.bo (by simp [Vp.list])).symm, (n2 q.bs (by simp [Vp.list])).symm, (n2 q.bm (by simp [Vp.list])).symm⟩
set_option maxHeartbeats 1000000 in
theorem Avoid_calls {w : World} {q : Vp} {f : Fp} {V : VS} (h : zR w q f V) {A1 A2 : Option Addr} {c1 c2 : Nat} {l1 l2 : List Int} (r1 : Kd.C (Kd.int .i64) w A1 l1.length l1) (r2 : Kd.C (Kd.int .i64) w A2 l2.length l2) (k1 : l1.length ≤ 9223372036854775807) (k2 : l2.length ≤ 9223372036854775807) (i1 : ∀ k ∈ l1, oki k) (i2 : ∀ k ∈ l2, oki k) :
  Calls Tryz.prog 33 #[vptr q, .slice A1 l1.length c1, .slice A2 l2.length c2] w fun e w' => e = .returned (.tuple #[]) ∧ ∃ b1 b2, w.heap.size ≤ b1 ∧ w.heap.size ≤ b2 ∧ zR w' (q.avoid b1 b2) f (V.avoid l1 l2) ∧ Turn [q.p] w w' := by
 have HV := ze.mk h
 have R1 := ze.mk r1
 have R2 := ze.mk r2
 have K1 := ze.mk k1
 have K2 := ze.mk k2
 have I1 := ze.mk i1
 have I2 := ze.mk i2
 clear h r1 r2 k1 k2 i1 i2
 go_enter Tryz.func33, Tryz.ntmps33
 go_wp2_with fail
 refine (note_calls R1.o K1.o I1.o).mono ?_
 rintro e w1 ⟨b1, rfl, m1, n1, hb1⟩
 have M1 := ze.mk m1
 have N1 := ze.mk n1
 have B1 := ze.mk hb1
 clear m1 n1 hb1
 go_wp2_with fail
 refine (note_calls (Kd.zZ R2.o B1.o) K2.o I2.o).mono ?_
 rintro e w2 ⟨b2, rfl, m2, n2, hb2⟩
 have M2 := ze.mk m2
 have N2 := ze.mk n2
 have B2 := ze.mk (B1.o.trans (hb2.mono B1.o.size))
 have V2 := ze.mk (HV.o.below B2.o)
 have M1' := ze.mk (M1.o.block (hb2.block _ M1.o.lt))
 have c4 := V2.o.facts.c4
 have c5 := V2.o.facts.c5
 have f4 := V2.o.facts.fz 4
 have f5 := V2.o.facts.fz 5
 have s1 := B1.o.size
 have RES := ze.mk (V2.o.setAway M1'.o M2.o (fun b hb e => by have := HV.o.lts b hb; have := N1.o; omega) (fun b hb e => by have := HV.o.lts b hb; have := N2.o; omega))
 clear m2 n2 hb2
 go_wp2
 go_returns
 exact ⟨rfl, b1, b2, N1.o, Nat.le_trans s1 N2.o, RES.o.1, (Turn.of_below B2.o _).trans RES.o.2⟩
end Go.Proofs.YtkbhilhefnahpaaGreat.Vw
namespace Go.Proofs.YtkbhilhefnahpaaGreat.Vw
open Go Go.RowKit Go.Proofs.YtkbhilhefnahpaaGreat.ML Go.Proofs.YtkbhilhefnahpaaGreat.Mem Go.Proofs.YtkbhilhefnahpaaGreat.Print Go.Proofs.YtkbhilhefnahpaaGreatW.PrintWords Go.Proofs.YtkbhilhefnahpaaGreatW.PrintLast Go.Proofs.YtkbhilhefnahpaaGreatW.PrintMore
set_option linter.unusedVariables false
set_option linter.unusedSimpArgs false
def Vp.wiped (q : Vp) (s : Nat) : Vp := { q with bo := s, bs := s + 1, bm := s + 2 }
def VS.wiped (V : VS) : VS := { V with own := [], seen := [], mine := [] }
def three (w : World) : World := ((w.alloc (.map #[] 0)).alloc (.map #[] 0)).alloc (.map #[] 0)
def ZE (w : World) (p s : Nat) : World := ((w.setCell ⟨p, 1, none⟩ (.map (some s))).setCell ⟨p, 2, none⟩ (.map (some (s + 1)))).setCell ⟨p, 3, none⟩ (.map (some (s + 2)))
theorem zR.wipe_of {w w3 : World} {q : Vp} {f : Fp} {V : VS} (h : zR w q f V) (hb : Below w.heap.size w w3) (s3 : w3.heap.size = w.heap.size + 3) (m1 : IsM ek 3 w3 w.heap.size []) (m2 : IsM ekb 3 w3 (w.heap.size + 1) []) (m3 : IsM ekb 3 w3 (w.heap.size + 2) []) :
  zR (ZE w3 q.p w.heap.size) (q.wiped w.heap.size) f V.wiped ∧ Turn [q.p] w (ZE w3 q.p w.heap.size) := by
 have h3 := h.below hb
 have t1 := Turn.setCell w3 ⟨q.p, 1, none⟩ (.map (some w.heap.size))
 have t2 := Turn.setCell (w3.setCell ⟨q.p, 1, none⟩ (.map (some w.heap.size))) ⟨q.p, 2, none⟩ (.map (some (w.heap.size + 1)))
 have t3 := Turn.setCell ((w3.setCell ⟨q.p, 1, none⟩ (.map (some w.heap.size))).setCell ⟨q.p, 2, none⟩ (.map (some (w.heap.size + 1)))) ⟨q.p, 3, none⟩ (.map (some (w.heap.size + 2)))
 have hs := yu (o := 3) (.map (some (w.heap.size + 2))) (yu (o := 2) (.map (some (w.heap.size + 1))) (yu (o := 1) (.map (some w.heap.size)) h3.cells))
 have t : Turn [q.p] w3 (ZE w3 q.p w.heap.size) := (t1.trans t2).trans t3
 obtain ⟨w4, hw4⟩ : ∃ w4, w4 = ZE w3 q.p w.heap.size := ⟨_, rfl⟩
 replace hs : w4.heap[q.p]? = some (.cells #[.pointer (some ⟨f.p, 0, none⟩), .map (some w.heap.size), .map (some (w.heap.size + 1)), .map (some (w.heap.size + 2)), .map q.ba, .map q.bn] 62 (0, 0)) := by rw [hw4]; exact hs
 rw [← hw4] at t ⊢
 clear hw4 t1 t2 t3
 have kb : ∀ b, b < w3.heap.size → b ≠ q.p → w4.heap[b]? = w3.heap[b]? := fun b hb hn => t.block b hb (by simpa using hn)
 have hp := h.lts q.p (by simp [Vp.list])
 have p4 : ∀ b ∈ q.ba.toList ++ q.bn.toList, b < w.heap.size ∧ b ≠ q.p := by
  intro b hb
  refine ⟨h.lts b (by simp only [Vp.list, List.mem_append] at hb ⊢; rcases hb with hb | hb; exact .inl (.inr hb); exact .inr hb), ?_⟩
  rcases List.mem_append.1 hb with hb | hb
  ·have ha := h.away
   cases hq : q.ba with
   | none => rw [hq] at hb; cases hb
   | some c =>
    rw [hq] at hb ha
    obtain rfl : b = c := by simpa using hb
    exact ((IsM.Zi (x := ekb) (k := 3) ha) h.cells).symm
  ·have ha := h.awayN
   cases hq : q.bn with
   | none => rw [hq] at hb; cases hb
   | some c =>
    rw [hq] at hb ha
    obtain rfl : b = c := by simpa using hb
    exact ((IsM.Zi (x := ekb) (k := 3) ha) h.cells).symm
 refine ⟨⟨⟨fun y hy => by (cases hy), fun y hy => by (cases hy), fun y hy => by (cases hy)⟩, hs, m1.block (kb _ m1.lt (by omega)), m2.block (kb _ m2.lt (by omega)), m3.block (kb _ m3.lt (by omega)),
  h3.away.block fun b hb => ?_, h3.awayN.block fun b hb => ?_, by simp [Vp.wiped], by simp [Vp.wiped], by simp [Vp.wiped], fun b hb => ?_⟩, (Turn.of_below hb _).trans t⟩
 ·have := p4 b (List.mem_append.2 (.inl hb))
  exact kb b (by omega) this.2
 ·have := p4 b (List.mem_append.2 (.inr hb))
  exact kb b (by omega) this.2
 ·have := (p4 b hb).1
  refine ⟨?_, ?_, ?_⟩ <;> (simp [Vp.wiped]; omega)
theorem zR.wipe {w : World} {q : Vp} {f : Fp} {V : VS} (h : zR w q f V) : zR (ZE (three w) q.p w.heap.size) (q.wiped w.heap.size) f V.wiped ∧ Turn [q.p] w (ZE (three w) q.p w.heap.size) := by
 have s1 : (w.alloc (.map #[] 0)).heap.size = w.heap.size + 1 := by simp
 have s2 : ((w.alloc (.map #[] 0)).alloc (.map #[] 0)).heap.size = w.heap.size + 2 := by simp
 have s3 : (three w).heap.size = w.heap.size + 3 := by simp [three]
 have hb : Below w.heap.size w (three w) := (((Below.refl w.heap.size w).alloc (Nat.le_refl _) _).alloc (by rw [s1]; omega) _).alloc (by rw [s2]; omega) _
 have m1 : IsM ek 3 (three w) w.heap.size [] := by
  refine IsM.block (w := w.alloc (.map #[] 0)) (IsM.made w) ?_
  rw [three, yO _ _ (by rw [s2]; simp), yO _ _ (by rw [s1]; simp)]
 have m2 : IsM ekb 3 (three w) (w.heap.size + 1) [] := by
  have hm := IsM.made (x := ekb) (k := 3) (w.alloc (.map #[] 0))
  rw [s1] at hm
  refine IsM.block hm ?_
  rw [three, yO _ _ (by rw [s2]; simp)]
 have m3 : IsM ekb 3 (three w) (w.heap.size + 2) [] := by
  have hm := IsM.made (x := ekb) (k := 3) ((w.alloc (.map #[] 0)).alloc (.map #[] 0))
  rw [s2] at hm
  exact hm
 exact h.wipe_of hb s3 m1 m2 m3
set_option maxHeartbeats 1000000 in
theorem Yl {w : World} {q : Vp} {f : Fp} {V : VS} (h : zR w q f V) : Calls Tryz.prog 38 #[vptr q] w fun e w' => e = .returned (.tuple #[]) ∧ ∃ s, w.heap.size ≤ s ∧ zR w' (q.wiped s) f V.wiped ∧ Turn [q.p] w w' := by
 have hmm := @run_makeMap Tryz.prog
 have RES := ze.mk h.wipe
 have hb : Below w.heap.size w (((w.alloc (.map #[] 0)).alloc (.map #[] 0)).alloc (.map #[] 0)) := (((Below.refl w.heap.size w).alloc (Nat.le_refl _) _).alloc (by simp) _).alloc (by simp; omega) _
 have V3 := ze.mk (h.below hb)
 have c1 := V3.o.facts.c1
 have c2 := V3.o.facts.c2
 have c3 := V3.o.facts.c3
 have f1 := V3.o.facts.fz 1
 have f2 := V3.o.facts.fz 2
 have f3 := V3.o.facts.fz 3
 clear hb h
 go_enter Tryz.func38, Tryz.ntmps38
 go_wp2
 go_returns
 have e1 : w.heap.size + 1 + 1 = w.heap.size + 2 := rfl
 refine ⟨rfl, w.heap.size, Nat.le_refl _, ?_, ?_⟩
 ·have := RES.o.1
  simpa [ZE, three] using this
 ·have := RES.o.2
  simpa [ZE, three] using this
end Go.Proofs.YtkbhilhefnahpaaGreat.Vw
namespace Go.Proofs.YtkbhilhefnahpaaGreat.Vw
open Go Go.RowKit Go.Proofs.YtkbhilhefnahpaaGreat.ML Go.Proofs.YtkbhilhefnahpaaGreat.Mem Go.Proofs.YtkbhilhefnahpaaGreat.Print Go.Proofs.YtkbhilhefnahpaaGreatW.PrintWords Go.Proofs.YtkbhilhefnahpaaGreatW.PrintLast Go.Proofs.YtkbhilhefnahpaaGreatW.PrintMore
set_option linter.unusedVariables false
set_option linter.unusedSimpArgs false
set_option maxHeartbeats 400000 in
theorem Cmp_calls (w : World) (a u b v : Int) : Calls Tryz.prog 43 #[.agg #[.int .i64 a, .int .u64 u], .agg #[.int .i64 b, .int .u64 v]] w fun e w' => e = .returned (.int .i64 (wrap64 (a - b))) ∧ w' = (w.alloc (.cells #[.int .i64 a, .int .u64 u] 50)).alloc (.cells #[.int .i64 b, .int .u64 v] 50) := by
 go_enter Tryz.func43, Tryz.ntmps43
 go_wp2
 go_ret
 exact ⟨by first | rfl | simp [i64_w], rfl⟩
end Go.Proofs.YtkbhilhefnahpaaGreat.Vw
